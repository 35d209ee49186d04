import Derived.Test.YtmgcmljldggllaaN9
set_option linter.unusedSimpArgs false
set_option linter.unusedVariables false
namespace Go.Proofs.Hk
open Go Go.Proofs

set_option maxHeartbeats 2000000 in
theorem rmul_spec (x y : List Nat) (hx : Lim x) (hy : Lim y) (n1 : x.length ≤ 1000000) (n2 : y.length ≤ 1000000) :
    Pur cx 65 [LL x, LL y] (LL (nl (vl x * vl y))) := by
  have mx : (x.map u32).length = x.length := by simp
  have my : (y.map u32).length = y.length := by simp
  refine Pur.ofW (sem_calls' cx (fn := Try.f65) rfl rfl rfl rfl ?_)
  repeat' first | refine Ops.tag rfl ?_ | (refine OpsT.go ?_; (conv => arg 7; whnf)) | ((with_reducible refine Stp.isSum ?_); refine Stp.sum ?_) | refine Stp.pure rfl ?_ | refine PutK.mk' rfl ?_ | refine Ops.nil ?_ | ((with_reducible refine Side.id ?_); first | refine Side.auto ?_) | ((with_reducible refine SemWp.id ?_); first | refine sem_seq ?_ | refine sem_region rfl ?_ | refine sem_block ?_) | ((with_reducible refine qThen.id ?_); first | refine qThen.go ?_) | refine Stp.eff ?_ | (refine newN (fun r hr => ?_); simp only [keys, List.nil_append, List.cons_append, List.map_cons, List.map_nil, List.mem_cons, List.not_mem_nil, not_or, or_false, not_false_eq_true] at hr)
  refine sem_loop cx (ι := List Nat × Nat) (fun i => i.2 ≤ x.length ∧ Lim i.1 ∧ i.1.length = x.length + y.length ∧ vl i.1 = vl (x.take i.2) * vl y ∧ ∀ j (hj : j < i.1.length), i.2 + y.length ≤ j → i.1[j] = 0)
    (fun i => [(0, .sure, LL x), (1, .sure, LL y), (5, .sure, .arr r 0 (x.length + y.length) (x.length + y.length) 1), (6, .sure, ii i.2)])
    (fun i => [(r, .cells (i.1.map u32) 89)]) (fun i => x.length - i.2) (List.replicate (x.length + y.length) 0, 0) ⟨Nat.zero_le _, Lim.rep _, by simp, by simp [vl_rep, vl], fun j hj _ => by simp⟩ ?_ ?_ ?_
  · exact Sub.cons rfl rfl (Sub.cons rfl rfl (Sub.cons rfl (by
      show HV.arr r 0 (((x.map u32).length : Int) + ((y.map u32).length : Int)).toNat (((x.map u32).length : Int) + ((y.map u32).length : Int)).toNat 1 = _
      rw [show (((x.map u32).length : Int) + ((y.map u32).length : Int)).toNat = x.length + y.length from by omega]) (Sub.cons rfl rfl (Sub.nil _))))
  · refine Subp.of_eq ?_
    show [(r, Res.cells (List.replicate (((x.map u32).length : Int) + ((y.map u32).length : Int)).toNat (.v (.int .u32 0))) 89)] = _
    rw [show (((x.map u32).length : Int) + ((y.map u32).length : Int)).toNat = x.length + y.length from by omega, List.map_replicate]
    rfl
  rintro ⟨out, i⟩ ⟨i1, i2, i3, i4, i5⟩
  simp only [] at i1 i2 i3 i4 i5
  dsimp only
  have mo : (out.map u32).length = out.length := by simp
  by_cases hix : i < x.length
  · have g1 : (x.map u32).getD (i : Int).toNat default = .v (.int .u32 (x[i] : Int)) := getD_u32 (n := i) rfl hix
    have bx := hx.get hix
    have ex := vl_take hix
    generalize x[i] = p at *
    have bx' : p < 4294967296 := bx
    repeat' first | refine Ops.tag rfl ?_ | (refine OpsT.go ?_; (conv => arg 7; whnf)) | ((with_reducible refine Stp.isDec ?_); first | refine Stp.decT ?_) | refine Stp.pure rfl ?_ | refine Ops.nil ?_ | ((with_reducible refine Br.id ?_); first | (with_reducible first | refine br_true rfl ?_)) | ((with_reducible refine SemWp.id ?_); first | refine sem_seq ?_ | refine sem_region rfl ?_ | refine sem_cond rfl ?_ | refine sem_block ?_ | refine sem_skip ?_) | ((with_reducible refine qThen.id ?_); first | refine qThen.go ?_)
    refine sem_loop cx (ι := List Nat × Nat × Nat) (fun k => k.2.1 ≤ y.length ∧ Lim k.1 ∧ k.1.length = x.length + y.length ∧ k.2.2 < B ∧ vl k.1 + B ^ (i + k.2.1) * k.2.2 = vl (x.take i) * vl y + B ^ i * (p * vl (y.take k.2.1)) ∧ ∀ j (hj : j < k.1.length), i + y.length ≤ j → k.1[j] = 0)
      (fun k => [(0, .sure, LL x), (1, .sure, LL y), (5, .sure, .arr r 0 (x.length + y.length) (x.length + y.length) 1), (6, .sure, ii i), (7, .sure, u64 k.2.2), (8, .sure, ii k.2.1)])
      (fun k => [(r, .cells (k.1.map u32) 89)]) (fun k => y.length - k.2.1) (out, 0, 0) ⟨Nat.zero_le _, i2, i3, B_pos, by simp [i4, vl], i5⟩ (by repeat' first | exact Sub.nil _ | refine Sub.auto ?_) (Subp.refl _) ?_
    rintro ⟨o, k, c⟩ ⟨k1, k2, k3, k4, k5, k6⟩
    simp only [] at k1 k2 k3 k4 k5 k6
    dsimp only
    have mo2 : (o.map u32).length = o.length := by simp
    have k4' : c < 4294967296 := k4
    by_cases hky : k < y.length
    · have g2 : (y.map u32).getD (k : Int).toNat default = .v (.int .u32 (y[k] : Int)) := getD_u32 (n := k) rfl hky
      have by_ := hy.get hky
      have ey := vl_take hky
      generalize y[k] = q at *
      have hj : i + k < o.length := by omega
      have bo := k2.get hj
      have g3 : (o.map u32)[0 + ((i : Int) + k).toNat * 1]? = some (.v (.int .u32 (o[i + k] : Int))) := get_u32 (j := i + k) hj (by omega)
      have hpq := mul_le bx by_
      have hpq1 : ((p * q : Nat) : Int) = (p : Int) * q := Int.natCast_mul _ _
      have hpq2 : (p : Int) * q ≤ 18446744065119617025 := by omega
      have hpq3 : 0 ≤ (p : Int) * q := by omega
      have hset := vl_set (l := o) (j := i + k) (d := (c + p * q + o[i + k]) % B) hj
      have hstep := mul_step hset k5
      have bo' : o[i + k] < 4294967296 := bo
      have bq' : q < 4294967296 := by_
      generalize hoik : o[i + k] = v at *
      repeat' first | refine Ops.tag rfl ?_ | (refine OpsT.go ?_; (conv => arg 7; whnf)) | ((with_reducible refine Stp.isSum ?_); refine Stp.sum ?_) | ((with_reducible refine Stp.isDec ?_); first | refine Stp.decT ?_) | refine Stp.pure rfl ?_ | ((with_reducible refine PutK.isSet ?_); refine PutK.set (by repeat first | exact HsetIs.hit) ?_) | refine PutK.mk' rfl ?_ | refine Ops.nil ?_ | (refine DOps.cons rfl rfl ?_; (conv => arg 7; whnf)) | ((with_reducible refine DStp.isSum ?_); refine DStp.sum ?_) | ((with_reducible refine DStp.isSumU ?_); refine DStp.sumU ?_) | refine DStp.pure rfl ?_ | refine DOps.nil rfl ?_ | ((with_reducible refine Look.id ?_); refine Look.auto ?_ (by repeat first | exact HGet.hit); try (conv => arg 7; whnf)) | ((with_reducible refine Side.id ?_); first | refine Side.auto ?_) | ((with_reducible refine Br.id ?_); first | (with_reducible first | refine br_true rfl ?_)) | ((with_reducible refine SemWp.id ?_); first | refine sem_seq ?_ | refine sem_region rfl ?_ | refine sem_cond rfl ?_ | refine sem_block ?_ | refine sem_skip ?_ | refine sem_draw ?_) | ((with_reducible refine qThen.id ?_); first | refine qThen.go ?_) | ((with_reducible refine hinBlock.id ?_); first | refine hinBlock.go ?_) | ((with_reducible refine hround.id ?_); first | refine hround.go ?_) | refine Stp.valS ?_ | refine Stp.look ?_ | refine Stp.eff ?_ | refine DStp.valS ?_ | refine DStp.look ?_ | ((with_reducible refine DrawReg.id ?_); refine drawQ' cx (by decide +kernel) rfl ?_) | ((with_reducible refine Upd.id ?_); first | refine Upd.set (by omega) ?_) | rw [g1] | rw [g2] | (rw [g3]; (conv => arg 7; whnf))
      have z : ((p : Int) * q + v + c) = ((c + p * q + v : Nat) : Int) := by omega
      refine Fin.mk ⟨(o.set (i + k) ((c + p * q + v) % B), k + 1, (c + p * q + v) / B), ⟨by simp only []; omega, k2.set (Nat.mod_lt _ B_pos), by simp only [List.length_set]; exact k3, ?_, ?_, fun j hj' hle => ?_⟩, by simp only []; omega, Sub.cons rfl rfl (Sub.cons rfl rfl (Sub.cons rfl rfl (Sub.cons rfl rfl (Sub.cons rfl (by rw [z]; exact congrArg (fun k => HV.v (.int .u64 k)) (shr32 _)) (Sub.cons rfl rfl (Sub.nil _)))))), Subp.of_eq ?_⟩
      · exact Nat.div_lt_of_lt_mul (by show c + p * q + v < 4294967296 * 4294967296; omega)
      · simp only []
        rw [ey, show i + (k + 1) = i + k + 1 from by omega, Nat.pow_succ, hstep, Nat.mul_add, Nat.mul_add, Nat.pow_add]
        simp only [Nat.add_assoc, Nat.mul_assoc, Nat.mul_comm, Nat.mul_left_comm]
      · simp only [List.length_set] at hj'
        rw [List.getElem_set_ne (by omega)]
        exact k6 j hj' hle
      · rw [z, IntKind.wrap_u32, mod32]
        show [(r, Res.cells ((o.map u32).set (0 + ((i : Int) + k).toNat * 1) (.v (.int .u32 (((c + p * q + v) % B : Nat) : Int)))) 89)] = _
        rw [set_u32 o (j := i + k) (by omega) rfl]
    · have hk : k = y.length := by omega
      subst hk
      rw [List.take_length] at k5
      have hj : i + y.length < o.length := by omega
      have hset := vl_set (l := o) (j := i + y.length) (d := c % B) hj
      rw [k6 _ hj (Nat.le_refl _), Nat.mul_zero, Nat.add_zero, Nat.mod_eq_of_lt k4, k5] at hset
      repeat' first | refine Ops.tag rfl ?_ | (refine OpsT.go ?_; (conv => arg 7; whnf)) | ((with_reducible refine Stp.isSum ?_); refine Stp.sum ?_) | ((with_reducible refine Stp.isSum3 ?_); refine Stp.sum3 ?_) | ((with_reducible refine Stp.isDec ?_); first | refine Stp.decF ?_) | refine Stp.pure rfl ?_ | ((with_reducible refine PutK.isSet ?_); refine PutK.set (by repeat first | exact HsetIs.hit) ?_) | refine PutK.mk' rfl ?_ | refine Ops.nil ?_ | ((with_reducible refine Look.id ?_); refine Look.auto ?_ (by repeat first | exact HGet.hit); try (conv => arg 7; whnf)) | ((with_reducible refine Side.id ?_); first | refine Side.auto ?_) | ((with_reducible refine Br.id ?_); first | (with_reducible first | refine br_false rfl ?_)) | ((with_reducible refine SemWp.id ?_); first | refine sem_seq ?_ | refine sem_region rfl ?_ | refine sem_cond rfl ?_ | refine sem_exit ?_) | ((with_reducible refine qThen.id ?_); first | refine qThen.go ?_) | ((with_reducible refine hinBlock.id ?_); first | refine hinBlock.go ?_) | ((with_reducible refine hround.id ?_); first | refine hround.go ?_) | refine Stp.valS ?_ | refine Stp.look ?_ | refine Stp.eff ?_ | ((with_reducible refine Upd.id ?_); first | refine Upd.set (by omega) ?_)
      refine Fin.mk ⟨(o.set (i + y.length) c, i + 1), ⟨by simp only []; omega, k2.set k4, by simp only [List.length_set]; exact k3, ?_, fun j hj' hle => ?_⟩, by simp only []; omega, by repeat' first | exact Sub.nil _ | refine Sub.auto ?_, Subp.of_eq ?_⟩
      · simp only []
        rw [hset, ex, Nat.add_mul, Nat.mul_assoc]
      · simp only [List.length_set] at hj'
        rw [List.getElem_set_ne (by simp only [] at hle; omega)]
        exact k6 j hj' (by simp only [] at hle; omega)
      · show [(r, Res.cells ((o.map u32).set (0 + ((i : Int) + ((y.map u32).length : Int)).toNat * 1) (.v (.int .u32 (c : Int)))) 89)] = _
        rw [set_u32 o (j := i + y.length) (by omega) rfl]
  · have hi : i = x.length := by omega
    subst hi
    rw [List.take_length] at i4
    have hT := rtrim_spec out i2 (by omega)
    rw [i4] at hT
    have hcut : List.take (x.length + y.length) (List.drop 0 (out.map u32)) = out.map u32 := by rw [List.drop_zero, List.take_of_length_le (by omega)]
    refine sem_freeze cx 5 r rfl HPick.hit (by omega) (Nat.le_refl _) ?_
    rw [hcut]
    repeat' first | refine Ops.tag rfl ?_ | (refine OpsT.go ?_; (conv => arg 7; whnf)) | ((with_reducible refine Stp.isDec ?_); first | refine Stp.decF ?_) | refine Stp.pure rfl ?_ | refine PutK.mk' rfl ?_ | refine Ops.nil ?_ | ((with_reducible refine Side.id ?_); first | refine Side.auto ?_) | ((with_reducible refine Br.id ?_); first | (with_reducible first | refine br_false rfl ?_)) | ((with_reducible refine SemWp.id ?_); first | refine sem_seq ?_ | refine sem_region rfl ?_ | refine sem_cond rfl ?_ | refine sem_exit ?_ | refine sem_ret ?_) | ((with_reducible refine qThen.id ?_); first | refine qThen.go ?_) | refine Stp.call ?_ | ((with_reducible refine CallWp.id ?_); first | refine Pur.call (hT) ?_) | ((with_reducible refine BodyR.id ?_); first | refine BodyR.ret ?_) | ((with_reducible refine ResG.id ?_); first | refine ResG.tmp rfl ?_ | refine ResG.nil ?_)
    exact Fin.weak (Weaker.refl _)
end Go.Proofs.Hk

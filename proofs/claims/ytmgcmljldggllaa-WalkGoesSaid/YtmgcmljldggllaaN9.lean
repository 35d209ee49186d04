import Derived.Test.YtmgcmljldggllaaN8
set_option linter.unusedSimpArgs false
set_option linter.unusedVariables false
namespace Go.Proofs.Hk
open Go Go.Proofs

theorem flat_u32 (l : List Nat) : (l.map u32).flatMap HV.cells = l.map u32 := by
  induction l with
  | nil => rfl
  | cons x l ih => simp only [List.map_cons, List.flatMap_cons, ih]; rfl
theorem cur_get {D x z : List Nat} {i : Nat} (hD : D.length = i) (hi : i < x.length) : (D ++ x.drop i ++ z)[i]'(by simp; omega) = x[i] := by
  subst hD
  rw [List.getElem_append_left (by simp; omega), List.getElem_append_right (Nat.le_refl _)]
  simp
theorem cur_set {D x z : List Nat} {i d : Nat} (hD : D.length = i) (hi : i < x.length) : (D ++ x.drop i ++ z).set i d = (D ++ [d]) ++ x.drop (i + 1) ++ z := by
  subst hD
  rw [List.set_append_left _ _ (by simp; omega), List.set_append_right _ _ (Nat.le_refl _), Nat.sub_self]
  have e := List.drop_eq_getElem_cons hi
  have e2 : (x.drop D.length).set 0 d = d :: x.drop (D.length + 1) := by rw [e, List.set_cons_zero]
  rw [e2]
  simp
set_option maxHeartbeats 1000000 in
theorem rsub_spec (x y : List Nat) (hx : Lim x) (hy : Lim y) (hyx : y.length ≤ x.length) (hn : x.length ≤ 1000000000) (hv : vl y ≤ vl x) :
    Pur cx 64 [LL x, LL y] (LL (nl (vl x - vl y))) := by
  have mx : (x.map u32).length = x.length := by simp
  have my : (y.map u32).length = y.length := by simp
  have hB : ∀ i, vl (x.take i) < B ^ i ∧ vl (y.take i) < B ^ i := fun i => ⟨vl_take_lt hx i, vl_take_lt hy i⟩
  refine Pur.ofW (sem_calls' cx (fn := Try.f64) rfl rfl rfl rfl ?_)
  by_cases hx0 : x = []
  · subst hx0
    have hT := rtrim_spec [] Lim.nil (by simp)
    have hT' : Pur cx 70 [.list .full 1 []] (LL (nl (vl ([] : List Nat)))) := hT.arg (Weaker.tok _ _ _)
    have hv0 : vl ([] : List Nat) - vl y = vl ([] : List Nat) := by simp [vl]
    rw [hv0]
    repeat' first | refine Ops.tag rfl ?_ | (refine OpsT.go ?_; (conv => arg 7; whnf)) | refine Stp.pure rfl ?_ | refine PutK.mk' rfl ?_ | refine Ops.nil ?_ | ((with_reducible refine Side.id ?_); first | refine Side.auto ?_) | ((with_reducible refine SemWp.id ?_); first | refine sem_seq ?_ | refine sem_region rfl ?_ | refine sem_block ?_) | ((with_reducible refine qThen.id ?_); first | refine qThen.go ?_) | refine Stp.eff ?_
    · refine sem_loop cx (ι := Unit) (fun _ => True) (fun _ => [(5, .sure, .list .full 1 []), (7, .sure, ii 0)]) (fun _ => []) (fun _ => 0) () trivial (Sub.cons rfl rfl (Sub.cons rfl rfl (Sub.nil _))) (Subp.nil _) ?_
      rintro _ _
      repeat' first | refine Ops.tag rfl ?_ | (refine OpsT.go ?_; (conv => arg 7; whnf)) | refine Stp.pure rfl ?_ | refine PutK.mk' rfl ?_ | refine Ops.nil ?_ | ((with_reducible refine Side.id ?_); first | refine Side.auto ?_) | ((with_reducible refine Br.id ?_); first | (with_reducible first | refine br_false rfl ?_)) | ((with_reducible refine SemWp.id ?_); first | refine sem_seq ?_ | refine sem_region rfl ?_ | refine sem_cond rfl ?_ | refine sem_exit ?_ | refine sem_ret ?_) | ((with_reducible refine qThen.id ?_); first | refine qThen.go ?_) | refine Stp.call ?_ | ((with_reducible refine CallWp.id ?_); first | refine Pur.call (hT') ?_) | ((with_reducible refine BodyR.id ?_); first | refine BodyR.ret ?_) | ((with_reducible refine ResG.id ?_); first | refine ResG.tmp rfl ?_ | refine ResG.nil ?_)
      exact Fin.weak (Weaker.refl _)
  · repeat' first | refine Ops.tag rfl ?_ | (refine OpsT.go ?_; (conv => arg 7; whnf)) | refine Stp.pure rfl ?_ | refine PutK.mk' rfl ?_ | refine Ops.nil ?_ | ((with_reducible refine Side.id ?_); first | refine Side.auto ?_) | ((with_reducible refine SemWp.id ?_); first | refine sem_seq ?_ | refine sem_region rfl ?_ | refine sem_block ?_) | ((with_reducible refine qThen.id ?_); first | refine qThen.go ?_) | refine Stp.eff ?_ | (refine newN (fun r hr => ?_); simp only [keys, List.nil_append, List.cons_append, List.map_cons, List.map_nil, List.mem_cons, List.not_mem_nil, not_or, or_false, not_false_eq_true] at hr) | ((with_reducible refine Grow2.id ?_); refine Grow2.arr rfl rfl rfl ?_) | refine newCap (fun cap hcap => ?_) | refine grow_split (fun _ => ?_) (fun _ => ?_)
    · rename_i h
      exact absurd (List.map_eq_nil_iff.1 h) hx0
    have e0 : ([] : List HV).length + (x.map u32).length = x.length := by simp
    have hcap : x.length ≤ cap := by simpa using hcap
    rw [e0]
    refine sem_loop cx (ι := Nat) (fun i => i ≤ x.length) (fun i => [(1, .sure, LL y), (5, .sure, .arr r 0 x.length cap 1), (6, .sure, u64 (bor (vl (x.take i)) (vl (y.take i)))), (7, .sure, ii i)])
      (fun i => [(r, .cells ((dig i (dif (vl (x.take i)) (vl (y.take i)) (B ^ i)) ++ x.drop i ++ List.replicate (cap - x.length) 0).map u32) 89)]) (fun i => x.length - i) 0 (Nat.zero_le _) (Sub.cons rfl rfl (Sub.cons rfl rfl (Sub.cons rfl (by simp [vl, u64, bor]) (Sub.cons rfl rfl (Sub.nil _))))) (Subp.of_eq ?_) ?_
    · rw [List.map_append, List.map_replicate, List.map_append, List.map_drop, List.drop_zero]
      show [(r, Res.cells (([] ++ x.map u32).flatMap HV.cells ++ List.replicate (cap - x.length) (.v (.int .u32 0))) 89)] = _
      rw [List.nil_append, flat_u32]
      rfl
    intro i hi
    have hcl : ((dig i (dif (vl (x.take i)) (vl (y.take i)) (B ^ i)) ++ x.drop i ++ List.replicate (cap - x.length) 0).map u32).length = cap := by simp [dig_length]; omega
    have hcl0 : (dig i (dif (vl (x.take i)) (vl (y.take i)) (B ^ i)) ++ x.drop i ++ List.replicate (cap - x.length) 0).length = cap := by simpa using hcl
    by_cases hix : i < x.length
    · have bx := hx.get hix
      have ex := vl_take hix
      obtain ⟨p1, p2⟩ := hB i
      obtain ⟨b, hb, ey, hyv⟩ : ∃ b, b < B ∧ vl (y.take (i + 1)) = vl (y.take i) + B ^ i * b ∧ ((i < y.length ∧ (y.map u32).getD (i : Int).toNat default = .v (.int .u32 (b : Int))) ∨ (¬ i < y.length ∧ b = 0)) := by
        by_cases hiy : i < y.length
        · exact ⟨y[i], hy.get hiy, vl_take hiy, .inl ⟨hiy, getD_u32 (n := i) rfl hiy⟩⟩
        · exact ⟨0, B_pos, by rw [List.take_of_length_le (by omega), List.take_of_length_le (by omega)]; omega, .inr ⟨hiy, rfl⟩⟩
      obtain ⟨s1, s2⟩ := dif_step p1 p2 bx hb
      have s3 := bor_step (a := x[i]) (b := b) p1 p2
      have b1 : bor (vl (x.take i)) (vl (y.take i)) ≤ 1 := by unfold bor; split <;> omega
      have d1 := dig_step i (dif (vl (x.take i)) (vl (y.take i)) (B ^ i)) (x[i] + bor (vl (x.take i) + B ^ i * x[i]) (vl (y.take i) + B ^ i * b) * B - bor (vl (x.take i)) (vl (y.take i)) - b)
      rw [Nat.div_eq_of_lt (dif_lt p1 p2).1, Nat.zero_add, Nat.mod_eq_of_lt s2, ← s1, ← ex, ← ey, ← Nat.pow_succ] at d1
      rw [← ex, ← ey] at s3
      have g3 : ((dig i (dif (vl (x.take i)) (vl (y.take i)) (B ^ i)) ++ x.drop i ++ List.replicate (cap - x.length) 0).map u32)[0 + (i : Int).toNat * 1]? = some (.v (.int .u32 (x[i] : Int))) := by
        rw [get_u32 (j := i) (by omega) (by omega), cur_get (dig_length _ _) hix]
      have hset : ∀ (d : Nat) (z : Int), z = (d : Int) → ((dig i (dif (vl (x.take i)) (vl (y.take i)) (B ^ i)) ++ x.drop i ++ List.replicate (cap - x.length) 0).map u32).set (0 + (i : Int).toNat * 1) (.v (.int .u32 z)) = ((dig i (dif (vl (x.take i)) (vl (y.take i)) (B ^ i)) ++ [d]) ++ x.drop (i + 1) ++ List.replicate (cap - x.length) 0).map u32 := fun d z hz => by
        rw [set_u32 _ (j := i) (by omega) hz, cur_set (dig_length _ _) hix]
      generalize hcv : bor (vl (x.take i)) (vl (y.take i)) = c at *
      generalize hk : bor (vl (x.take (i + 1))) (vl (y.take (i + 1))) = k at *
      generalize hxi : x[i] = a at *
      simp only [B] at bx hb
      rcases hyv with ⟨hiy, g2⟩ | ⟨hiy, hb0⟩
      · by_cases hab : a < c + b
        · rw [if_pos hab] at s3
          subst s3
          repeat' first | refine Ops.tag rfl ?_ | (refine OpsT.go ?_; (conv => arg 7; whnf)) | ((with_reducible refine Stp.isSum ?_); refine Stp.sum ?_) | ((with_reducible refine Stp.isSumU ?_); refine Stp.sumU ?_) | ((with_reducible refine Stp.isSum3 ?_); refine Stp.sum3 ?_) | ((with_reducible refine Stp.isDec ?_); first | refine Stp.decT ?_ | refine Stp.decF ?_) | refine Stp.pure rfl ?_ | ((with_reducible refine PutK.isSet ?_); refine PutK.set (by repeat first | exact HsetIs.hit) ?_) | refine PutK.mk' rfl ?_ | refine Ops.nil ?_ | ((with_reducible refine Look.id ?_); refine Look.auto ?_ (by repeat first | exact HGet.hit); try (conv => arg 7; whnf)) | ((with_reducible refine Side.id ?_); first | refine Side.auto ?_) | ((with_reducible refine Br.id ?_); first | (with_reducible first | refine br_true rfl ?_ | refine br_false rfl ?_)) | ((with_reducible refine SemWp.id ?_); first | refine sem_seq ?_ | refine sem_region rfl ?_ | refine sem_cond rfl ?_ | refine sem_block ?_ | refine sem_skip ?_) | ((with_reducible refine qThen.id ?_); first | refine qThen.go ?_) | ((with_reducible refine hinBlock.id ?_); first | refine hinBlock.go ?_) | ((with_reducible refine hround.id ?_); first | refine hround.go ?_) | refine Stp.valS ?_ | refine Stp.look ?_ | refine Stp.eff ?_ | ((with_reducible refine Upd.id ?_); first | refine Upd.set (by omega) ?_) | rw [g2] | (rw [g3]; (conv => arg 7; whnf))
          refine Fin.mk ⟨i + 1, by omega, by omega, Sub.cons rfl rfl (Sub.cons rfl rfl (Sub.cons rfl (by rw [hk]; rfl) (Sub.cons rfl rfl (Sub.nil _)))), Subp.of_eq ?_⟩
          rw [d1, hset (a + 1 * B - c - b) _ (by simp only [B]; omega)]
        · rw [if_neg hab] at s3
          subst s3
          repeat' first | refine Ops.tag rfl ?_ | (refine OpsT.go ?_; (conv => arg 7; whnf)) | ((with_reducible refine Stp.isSum ?_); refine Stp.sum ?_) | ((with_reducible refine Stp.isSumU ?_); refine Stp.sumU ?_) | ((with_reducible refine Stp.isSum3 ?_); refine Stp.sum3 ?_) | ((with_reducible refine Stp.isDec ?_); first | refine Stp.decT ?_) | refine Stp.pure rfl ?_ | ((with_reducible refine PutK.isSet ?_); refine PutK.set (by repeat first | exact HsetIs.hit) ?_) | refine PutK.mk' rfl ?_ | refine Ops.nil ?_ | ((with_reducible refine Look.id ?_); refine Look.auto ?_ (by repeat first | exact HGet.hit); try (conv => arg 7; whnf)) | ((with_reducible refine Side.id ?_); first | refine Side.auto ?_) | ((with_reducible refine Br.id ?_); first | (with_reducible first | refine br_true rfl ?_)) | ((with_reducible refine SemWp.id ?_); first | refine sem_seq ?_ | refine sem_region rfl ?_ | refine sem_cond rfl ?_ | refine sem_block ?_ | refine sem_skip ?_) | ((with_reducible refine qThen.id ?_); first | refine qThen.go ?_) | ((with_reducible refine hinBlock.id ?_); first | refine hinBlock.go ?_) | ((with_reducible refine hround.id ?_); first | refine hround.go ?_) | refine Stp.valS ?_ | refine Stp.look ?_ | refine Stp.eff ?_ | ((with_reducible refine Upd.id ?_); first | refine Upd.set (by omega) ?_) | rw [g2] | (rw [g3]; (conv => arg 7; whnf))
          refine Fin.mk ⟨i + 1, by omega, by omega, Sub.cons rfl rfl (Sub.cons rfl rfl (Sub.cons rfl (by rw [hk]; rfl) (Sub.cons rfl rfl (Sub.nil _)))), Subp.of_eq ?_⟩
          rw [d1, hset (a + 0 * B - c - b) _ (by simp only [B]; omega)]
      · subst hb0
        by_cases hab : a < c + 0
        · rw [if_pos hab] at s3
          subst s3
          repeat' first | refine Ops.tag rfl ?_ | (refine OpsT.go ?_; (conv => arg 7; whnf)) | ((with_reducible refine Stp.isSum ?_); refine Stp.sum ?_) | ((with_reducible refine Stp.isSumU ?_); refine Stp.sumU ?_) | ((with_reducible refine Stp.isSum3 ?_); refine Stp.sum3 ?_) | ((with_reducible refine Stp.isDec ?_); first | refine Stp.decT ?_ | refine Stp.decF ?_) | refine Stp.pure rfl ?_ | ((with_reducible refine PutK.isSet ?_); refine PutK.set (by repeat first | exact HsetIs.hit) ?_) | refine PutK.mk' rfl ?_ | refine Ops.nil ?_ | ((with_reducible refine Look.id ?_); refine Look.auto ?_ (by repeat first | exact HGet.hit); try (conv => arg 7; whnf)) | ((with_reducible refine Side.id ?_); first | refine Side.auto ?_) | ((with_reducible refine Br.id ?_); first | (with_reducible first | refine br_true rfl ?_ | refine br_false rfl ?_)) | ((with_reducible refine SemWp.id ?_); first | refine sem_seq ?_ | refine sem_region rfl ?_ | refine sem_cond rfl ?_ | refine sem_block ?_ | refine sem_skip ?_) | ((with_reducible refine qThen.id ?_); first | refine qThen.go ?_) | ((with_reducible refine hinBlock.id ?_); first | refine hinBlock.go ?_) | ((with_reducible refine hround.id ?_); first | refine hround.go ?_) | refine Stp.valS ?_ | refine Stp.look ?_ | refine Stp.eff ?_ | ((with_reducible refine Upd.id ?_); first | refine Upd.set (by omega) ?_) | (rw [g3]; (conv => arg 7; whnf))
          refine Fin.mk ⟨i + 1, by omega, by omega, Sub.cons rfl rfl (Sub.cons rfl rfl (Sub.cons rfl (by rw [hk]; rfl) (Sub.cons rfl rfl (Sub.nil _)))), Subp.of_eq ?_⟩
          rw [d1, hset (a + 1 * B - c - 0) _ (by simp only [B]; omega)]
        · rw [if_neg hab] at s3
          subst s3
          repeat' first | refine Ops.tag rfl ?_ | (refine OpsT.go ?_; (conv => arg 7; whnf)) | ((with_reducible refine Stp.isSum ?_); refine Stp.sum ?_) | ((with_reducible refine Stp.isSumU ?_); refine Stp.sumU ?_) | ((with_reducible refine Stp.isSum3 ?_); refine Stp.sum3 ?_) | ((with_reducible refine Stp.isDec ?_); first | refine Stp.decT ?_ | refine Stp.decF ?_) | refine Stp.pure rfl ?_ | ((with_reducible refine PutK.isSet ?_); refine PutK.set (by repeat first | exact HsetIs.hit) ?_) | refine PutK.mk' rfl ?_ | refine Ops.nil ?_ | ((with_reducible refine Look.id ?_); refine Look.auto ?_ (by repeat first | exact HGet.hit); try (conv => arg 7; whnf)) | ((with_reducible refine Side.id ?_); first | refine Side.auto ?_) | ((with_reducible refine Br.id ?_); first | (with_reducible first | refine br_true rfl ?_ | refine br_false rfl ?_)) | ((with_reducible refine SemWp.id ?_); first | refine sem_seq ?_ | refine sem_region rfl ?_ | refine sem_cond rfl ?_ | refine sem_block ?_ | refine sem_skip ?_) | ((with_reducible refine qThen.id ?_); first | refine qThen.go ?_) | ((with_reducible refine hinBlock.id ?_); first | refine hinBlock.go ?_) | ((with_reducible refine hround.id ?_); first | refine hround.go ?_) | refine Stp.valS ?_ | refine Stp.look ?_ | refine Stp.eff ?_ | ((with_reducible refine Upd.id ?_); first | refine Upd.set (by omega) ?_) | (rw [g3]; (conv => arg 7; whnf))
          refine Fin.mk ⟨i + 1, by omega, by omega, Sub.cons rfl rfl (Sub.cons rfl rfl (Sub.cons rfl (by rw [hk]; rfl) (Sub.cons rfl rfl (Sub.nil _)))), Subp.of_eq ?_⟩
          rw [d1, hset (a + 0 * B - c - 0) _ (by simp only [B]; omega)]
    · have : i = x.length := by omega
      subst this
      rw [List.take_length, List.take_of_length_le hyx] at *
      have e : dif (vl x) (vl y) (B ^ x.length) = vl x - vl y := by unfold dif bor; rw [if_neg (by omega)]; simp
      rw [e] at *
      have hvx := vl_lt hx
      have hT := rtrim_spec (dig x.length (vl x - vl y)) (dig_lim _ _) (by rw [dig_length]; omega)
      rw [vl_dig, Nat.mod_eq_of_lt (by omega)] at hT
      have hcut : List.take x.length (List.drop 0 ((dig x.length (vl x - vl y) ++ x.drop x.length ++ List.replicate (cap - x.length) 0).map u32)) = (dig x.length (vl x - vl y)).map u32 := by
        rw [List.drop_zero, ← List.map_take, List.drop_of_length_le (Nat.le_refl _), List.append_nil, List.take_append_of_le_length (by rw [dig_length]; exact Nat.le_refl _), List.take_of_length_le (by rw [dig_length]; exact Nat.le_refl _)]
      have hdl : ((dig x.length (vl x - vl y)).map u32).length = x.length := by rw [List.length_map, dig_length]
      refine sem_freeze cx 5 r rfl HPick.hit (by rw [List.length_map, List.length_append, List.length_append, dig_length]; omega) hcap ?_
      rw [hcut]
      repeat' first | refine Ops.tag rfl ?_ | (refine OpsT.go ?_; (conv => arg 7; whnf)) | ((with_reducible refine Stp.isDec ?_); first | refine Stp.decF ?_) | refine Stp.pure rfl ?_ | refine PutK.mk' rfl ?_ | refine Ops.nil ?_ | ((with_reducible refine Side.id ?_); first | refine Side.auto ?_) | ((with_reducible refine Br.id ?_); first | (with_reducible first | refine br_false rfl ?_)) | ((with_reducible refine SemWp.id ?_); first | refine sem_seq ?_ | refine sem_region rfl ?_ | refine sem_cond rfl ?_ | refine sem_exit ?_ | refine sem_ret ?_) | ((with_reducible refine qThen.id ?_); first | refine qThen.go ?_) | refine Stp.call ?_ | ((with_reducible refine CallWp.id ?_); first | refine Pur.call (hT) ?_) | ((with_reducible refine BodyR.id ?_); first | refine BodyR.ret ?_) | ((with_reducible refine ResG.id ?_); first | refine ResG.tmp rfl ?_ | refine ResG.nil ?_)
      exact Fin.weak (Weaker.refl _)
end Go.Proofs.Hk

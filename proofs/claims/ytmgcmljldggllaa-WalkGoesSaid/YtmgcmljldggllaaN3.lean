import Derived.Test.YtmgcmljldggllaaN2
set_option linter.unusedSimpArgs false
set_option linter.unusedVariables false
namespace Go.Proofs.Hk
open Go Go.Proofs

theorem map_snoc (l : List Nat) (x : Nat) (z : Int) (h : z = (x : Int)) : l.map u32 ++ [.v (.int .u32 z)] = (l ++ [x]).map u32 := by
  subst h; simp [u32]
set_option maxHeartbeats 1000000 in
theorem plus_aux (x y : List Nat) (hx : Lim x) (hy : Lim y) (hyx : y.length ≤ x.length) (hn : x.length ≤ 1099511627776) (p q : List Nat) (hpq : (x = p ∧ y = q) ∨ (y = p ∧ x = q ∧ y.length < x.length)) :
    Pur cx 57 [LL p, LL q] (LL (dig (x.length + 1) (vl x + vl y))) := by
  have mx : (x.map u32).length = x.length := by simp
  have my : (y.map u32).length = y.length := by simp
  refine Pur.ofW (sem_calls' cx (fn := Try.f57) rfl rfl rfl rfl ?_)
  have hB : ∀ i, vl (x.take i) < B ^ i ∧ vl (y.take i) < B ^ i := fun i => ⟨vl_take_lt hx i, vl_take_lt hy i⟩
  have hc : ∀ i, (vl (x.take i) + vl (y.take i)) / B ^ i ≤ 1 := fun i => by
    have := hB i
    exact Nat.le_of_lt_succ (Nat.div_lt_of_lt_mul (by omega))
  rcases hpq with ⟨h1, h2⟩ | ⟨h1, h2, hlt⟩ <;> subst h1 h2
  all_goals
    repeat' first | refine Ops.tag rfl ?_ | (refine OpsT.go ?_; (conv => arg 7; whnf)) | ((with_reducible refine Stp.isSum ?_); refine Stp.sum ?_) | ((with_reducible refine Stp.isDec ?_); first | refine Stp.decT ?_ | refine Stp.decF ?_) | refine Stp.pure rfl ?_ | refine PutK.mk' rfl ?_ | refine Ops.nil ?_ | ((with_reducible refine Side.id ?_); first | refine Side.auto ?_) | ((with_reducible refine Br.id ?_); first | (with_reducible first | refine br_true rfl ?_ | refine br_false rfl ?_)) | ((with_reducible refine SemWp.id ?_); first | refine sem_seq ?_ | refine sem_region rfl ?_ | refine sem_cond rfl ?_ | refine sem_block ?_ | refine sem_skip ?_) | ((with_reducible refine qThen.id ?_); first | refine qThen.go ?_) | refine Stp.eff ?_ | (refine newN (fun r hr => ?_); simp only [keys, List.nil_append, List.cons_append, List.map_cons, List.map_nil, List.mem_cons, List.not_mem_nil, not_or, or_false, not_false_eq_true] at hr)
    refine sem_loop cx (ι := Nat) (fun i => i ≤ x.length) (fun i => [(1, .sure, LL y), (5, .sure, .list (.own r 0) 1 ((dig i (vl (x.take i) + vl (y.take i))).map u32)), (6, .sure, u64 ((vl (x.take i) + vl (y.take i)) / B ^ i)), (20, .sure, LL x), (21, .sure, ii x.length), (22, .sure, ii i)]) (fun i => [(r, .tok i)]) (fun i => x.length - i) 0 (Nat.zero_le _) (Sub.cons rfl rfl (Sub.cons rfl rfl (Sub.cons rfl (by simp [vl, u64]) (Sub.cons rfl rfl (Sub.cons rfl (by rw [mx]; rfl) (Sub.cons rfl rfl (Sub.nil _))))))) (Subp.refl _) ?_
    intro i hi
    have hci := hc i
    have ml : ((dig i (vl (x.take i) + vl (y.take i))).map u32).length = i := by rw [List.length_map, dig_length]
    by_cases hix : i < x.length
    · have g1 : (x.map u32).getD (i : Int).toNat default = .v (.int .u32 (x[i] : Int)) := getD_u32 (n := i) rfl hix
      have bx := hx.get hix
      have ex := vl_take hix
      by_cases hiy : i < y.length
      · have g2 : (y.map u32).getD (i : Int).toNat default = .v (.int .u32 (y[i] : Int)) := getD_u32 (n := i) rfl hiy
        have by' := hy.get hiy
        have ey := vl_take hiy
        have hS : vl (x.take (i + 1)) + vl (y.take (i + 1)) = vl (x.take i) + vl (y.take i) + B ^ i * (x[i] + y[i]) := by rw [ex, ey, Nat.mul_add]; omega
        have d1 := dig_step i (vl (x.take i) + vl (y.take i)) (x[i] + y[i])
        have d2 := div_step i (vl (x.take i) + vl (y.take i)) (x[i] + y[i])
        rw [← hS] at d1 d2
        generalize (vl (x.take i) + vl (y.take i)) / B ^ i = c at *
        generalize x[i] = a at *
        generalize y[i] = b at *
        simp only [B] at bx by'
        repeat' first | refine Ops.tag rfl ?_ | (refine OpsT.go ?_; (conv => arg 7; whnf)) | ((with_reducible refine Stp.isSum ?_); refine Stp.sum ?_) | ((with_reducible refine Stp.isSumU ?_); refine Stp.sumU ?_) | ((with_reducible refine Stp.isDec ?_); first | refine Stp.decT ?_) | refine Stp.pure rfl ?_ | ((with_reducible refine PutK.isSet ?_); refine PutK.set (by repeat first | exact HsetIs.hit) ?_) | refine PutK.mk' rfl ?_ | refine Ops.nil ?_ | ((with_reducible refine Look.id ?_); refine Look.auto ?_ (by repeat first | exact HGet.hit); try (conv => arg 7; whnf)) | ((with_reducible refine Side.id ?_); first | refine Side.auto ?_) | ((with_reducible refine Br.id ?_); first | (with_reducible first | refine br_true rfl ?_)) | ((with_reducible refine SemWp.id ?_); first | refine sem_seq ?_ | refine sem_region rfl ?_ | refine sem_cond rfl ?_ | refine sem_block ?_ | refine sem_skip ?_) | ((with_reducible refine qThen.id ?_); first | refine qThen.go ?_) | ((with_reducible refine hinBlock.id ?_); first | refine hinBlock.go ?_) | ((with_reducible refine hround.id ?_); first | refine hround.go ?_) | refine Stp.valS ?_ | refine Stp.look ?_ | refine Stp.call ?_ | refine Stp.eff ?_ | ((with_reducible refine CallWp.id ?_); first | refine Pur.call (low_specI _) ?_) | rw [g1] | rw [g2]
        have z : ((c : Int) + a + b) = ((c + (a + b) : Nat) : Int) := by omega
        exact Fin.mk ⟨i + 1, by omega, by omega, Sub.cons rfl rfl (Sub.cons rfl (by rw [z, mod32, d1]; exact congrArg _ (map_snoc _ _ _ rfl)) (Sub.cons rfl (by rw [z, d2]; exact congrArg (fun k => HV.v (.int .u64 k)) (shr32 _)) (Sub.cons rfl rfl (Sub.cons rfl rfl (Sub.cons rfl rfl (Sub.nil _)))))), Subp.of_eq rfl⟩
      · have ey : vl (y.take (i + 1)) = vl (y.take i) := by rw [List.take_of_length_le (by omega), List.take_of_length_le (by omega)]
        have hS : vl (x.take (i + 1)) + vl (y.take (i + 1)) = vl (x.take i) + vl (y.take i) + B ^ i * x[i] := by rw [ex, ey]; omega
        have d1 := dig_step i (vl (x.take i) + vl (y.take i)) x[i]
        have d2 := div_step i (vl (x.take i) + vl (y.take i)) x[i]
        rw [← hS] at d1 d2
        generalize (vl (x.take i) + vl (y.take i)) / B ^ i = c at *
        generalize x[i] = a at *
        simp only [B] at bx
        repeat' first | refine Ops.tag rfl ?_ | (refine OpsT.go ?_; (conv => arg 7; whnf)) | ((with_reducible refine Stp.isSum ?_); refine Stp.sum ?_) | ((with_reducible refine Stp.isSumU ?_); refine Stp.sumU ?_) | ((with_reducible refine Stp.isDec ?_); first | refine Stp.decT ?_ | refine Stp.decF ?_) | refine Stp.pure rfl ?_ | ((with_reducible refine PutK.isSet ?_); refine PutK.set (by repeat first | exact HsetIs.hit) ?_) | refine PutK.mk' rfl ?_ | refine Ops.nil ?_ | ((with_reducible refine Look.id ?_); refine Look.auto ?_ (by repeat first | exact HGet.hit); try (conv => arg 7; whnf)) | ((with_reducible refine Side.id ?_); first | refine Side.auto ?_) | ((with_reducible refine Br.id ?_); first | (with_reducible first | refine br_true rfl ?_ | refine br_false rfl ?_)) | ((with_reducible refine SemWp.id ?_); first | refine sem_seq ?_ | refine sem_region rfl ?_ | refine sem_cond rfl ?_ | refine sem_block ?_ | refine sem_skip ?_) | ((with_reducible refine qThen.id ?_); first | refine qThen.go ?_) | ((with_reducible refine hinBlock.id ?_); first | refine hinBlock.go ?_) | ((with_reducible refine hround.id ?_); first | refine hround.go ?_) | refine Stp.valS ?_ | refine Stp.look ?_ | refine Stp.call ?_ | refine Stp.eff ?_ | ((with_reducible refine CallWp.id ?_); first | refine Pur.call (low_specI _) ?_) | rw [g1]
        have z : ((c : Int) + a) = ((c + a : Nat) : Int) := by omega
        exact Fin.mk ⟨i + 1, by omega, by omega, Sub.cons rfl rfl (Sub.cons rfl (by rw [z, mod32, d1]; exact congrArg _ (map_snoc _ _ _ rfl)) (Sub.cons rfl (by rw [z, d2]; exact congrArg (fun k => HV.v (.int .u64 k)) (shr32 _)) (Sub.cons rfl rfl (Sub.cons rfl rfl (Sub.cons rfl rfl (Sub.nil _)))))), Subp.of_eq rfl⟩
    · have : i = x.length := by omega
      subst this
      have d1 := dig_snoc x.length (vl x + vl y)
      rw [List.take_length, List.take_of_length_le hyx] at *
      rw [d1]
      generalize (vl x + vl y) / B ^ x.length = c at *
      repeat' first | refine Ops.tag rfl ?_ | (refine OpsT.go ?_; (conv => arg 7; whnf)) | ((with_reducible refine Stp.isDec ?_); first | refine Stp.decF ?_) | refine Stp.pure rfl ?_ | ((with_reducible refine PutK.isSet ?_); refine PutK.set (by repeat first | exact HsetIs.hit) ?_) | refine PutK.mk' rfl ?_ | refine Ops.nil ?_ | ((with_reducible refine Look.id ?_); refine Look.auto ?_ (by repeat first | exact HGet.hit); try (conv => arg 7; whnf)) | ((with_reducible refine Side.id ?_); first | refine Side.auto ?_) | ((with_reducible refine Br.id ?_); first | (with_reducible first | refine br_false rfl ?_)) | ((with_reducible refine SemWp.id ?_); first | refine sem_seq ?_ | refine sem_region rfl ?_ | refine sem_cond rfl ?_ | refine sem_exit ?_ | refine sem_ret ?_) | ((with_reducible refine qThen.id ?_); first | refine qThen.go ?_) | refine Stp.look ?_ | refine Stp.call ?_ | refine Stp.eff ?_ | ((with_reducible refine CallWp.id ?_); first | refine Pur.call (low_specI _) ?_) | ((with_reducible refine BodyR.id ?_); first | refine BodyR.ret ?_) | ((with_reducible refine ResG.id ?_); first | refine ResG.tmp rfl ?_ | refine ResG.nil ?_)
      refine Fin.weak ?_
      rw [LL, ← map_snoc _ (c % B) _ (mod32 c)]
      exact Weaker.tok _ _ _
theorem plus_spec (a b : List Nat) (ha : Lim a) (hb : Lim b) (na : a.length ≤ 1099511627776) (nb : b.length ≤ 1099511627776) : Pur cx 57 [LL a, LL b] (LL (dig (max a.length b.length + 1) (vl a + vl b))) := by
  rcases Nat.lt_or_ge a.length b.length with h | h
  · rw [Nat.max_eq_right (by omega), Nat.add_comm (vl a)]
    exact plus_aux b a hb ha (by omega) nb a b (.inr ⟨rfl, rfl, h⟩)
  · rw [Nat.max_eq_left h]
    exact plus_aux a b ha hb h na a b (.inl ⟨rfl, rfl⟩)
end Go.Proofs.Hk

import Derived.Test.YtmgcmljldggllaaN3
set_option linter.unusedSimpArgs false
set_option linter.unusedVariables false
namespace Go.Proofs.Hk
open Go Go.Proofs

/-! Differences. -/
def bor (A V : Nat) : Nat := if A < V then 1 else 0
theorem bor_step {A V P a b : Nat} (hA : A < P) (hV : V < P) : bor (A + P * a) (V + P * b) = if a < bor A V + b then 1 else 0 := by
  unfold bor
  have h1 : a ≤ b → P * a ≤ P * b := fun h => Nat.mul_le_mul_left _ h
  have h2 : b + 1 ≤ a → P * b + P ≤ P * a := fun h => by have := Nat.mul_le_mul_left P h; rwa [Nat.mul_add, Nat.mul_one] at this
  have h3 : a + 1 ≤ b → P * a + P ≤ P * b := fun h => by have := Nat.mul_le_mul_left P h; rwa [Nat.mul_add, Nat.mul_one] at this
  have h4 : a = b → P * a = P * b := fun h => by rw [h]
  by_cases hl : A < V
  · simp only [hl, if_true]
    by_cases hab : a < 1 + b
    · rw [if_pos hab, if_pos (by have := h1 (by omega); omega)]
    · rw [if_neg hab, if_neg (by have := h2 (by omega); omega)]
  · simp only [hl, if_false]
    by_cases hab : a < 0 + b
    · rw [if_pos hab, if_pos (by have := h3 (by omega); omega)]
    · rw [if_neg hab, if_neg]
      rcases Nat.eq_or_lt_of_le (Nat.le_of_not_lt hab) with h | h
      · have := h4 (by omega); omega
      · have := h2 (by omega); omega
def dif (A V P : Nat) : Nat := A + bor A V * P - V
theorem dif_lt {A V P : Nat} (hA : A < P) (hV : V < P) : dif A V P < P ∧ dif A V P + V = A + bor A V * P := by
  unfold dif bor
  split <;> simp <;> omega
theorem dif_step {A V P a b : Nat} (hA : A < P) (hV : V < P) (ha : a < B) (hb : b < B) : dif (A + P * a) (V + P * b) (P * B) = dif A V P + P * (a + bor (A + P * a) (V + P * b) * B - bor A V - b) ∧ a + bor (A + P * a) (V + P * b) * B - bor A V - b < B := by
  have hB := B_pos
  have hP : 0 < P := by omega
  obtain ⟨d1, d2⟩ := dif_lt hA hV
  have hs := bor_step (a := a) (b := b) hA hV
  have b1 : bor A V ≤ 1 := by unfold bor; split <;> omega
  generalize hk : bor (A + P * a) (V + P * b) = k at *
  have k1 : k = 1 ∧ a < bor A V + b ∨ k = 0 ∧ bor A V + b ≤ a := by
    by_cases h : a < bor A V + b
    · rw [if_pos h] at hs; exact .inl ⟨hs, h⟩
    · rw [if_neg h] at hs; exact .inr ⟨hs, by omega⟩
  have hle : bor A V + b ≤ a + k * B := by
    rcases k1 with ⟨rfl, _⟩ | ⟨rfl, _⟩ <;> omega
  refine ⟨?_, by rcases k1 with ⟨rfl, _⟩ | ⟨rfl, _⟩ <;> omega⟩
  have e : dif (A + P * a) (V + P * b) (P * B) = (A + P * a) + k * (P * B) - (V + P * b) := by unfold dif; rw [hk]
  rw [e, Nat.sub_sub, Nat.mul_sub, Nat.mul_add, Nat.mul_add]
  have m1 : P * (k * B) = k * (P * B) := by rw [Nat.mul_left_comm]
  have m2 : P * bor A V = bor A V * P := Nat.mul_comm _ _
  have m3 : P * (bor A V + b) ≤ P * (a + k * B) := Nat.mul_le_mul_left _ hle
  rw [Nat.mul_add, Nat.mul_add] at m3
  omega
theorem shr63 (x : Nat) : ((x : Nat) : Int).fdiv (2 ^ (min (Int.toNat 63) 64)) = ((x / 9223372036854775808 : Nat) : Int) := by
  rw [Int.fdiv_eq_ediv_of_nonneg _ (by decide)]
  rfl
theorem u64_wrap (x : Int) : IntKind.u64.wrap x = x % 18446744073709551616 := by
  simp [IntKind.wrap, IntKind.signed, IntKind.bits]
set_option maxHeartbeats 1000000 in
theorem minus_spec (x y : List Nat) (hx : Lim x) (hy : Lim y) (hyx : y.length ≤ x.length) (hn : x.length ≤ 1099511627776) (hv : vl y ≤ vl x) :
    Pur cx 59 [LL x, LL y] (LL (dig x.length (vl x - vl y))) := by
  have mx : (x.map u32).length = x.length := by simp
  have my : (y.map u32).length = y.length := by simp
  have hB : ∀ i, vl (x.take i) < B ^ i ∧ vl (y.take i) < B ^ i := fun i => ⟨vl_take_lt hx i, vl_take_lt hy i⟩
  refine Pur.ofW (sem_calls' cx (fn := Try.f59) rfl rfl rfl rfl ?_)
  repeat' first | refine Ops.tag rfl ?_ | (refine OpsT.go ?_; (conv => arg 7; whnf)) | refine Stp.pure rfl ?_ | refine PutK.mk' rfl ?_ | refine Ops.nil ?_ | ((with_reducible refine Side.id ?_); first | refine Side.auto ?_) | ((with_reducible refine SemWp.id ?_); first | refine sem_seq ?_ | refine sem_region rfl ?_ | refine sem_block ?_) | ((with_reducible refine qThen.id ?_); first | refine qThen.go ?_) | refine Stp.eff ?_ | (refine newN (fun r hr => ?_); simp only [keys, List.nil_append, List.cons_append, List.map_cons, List.map_nil, List.mem_cons, List.not_mem_nil, not_or, or_false, not_false_eq_true] at hr)
  refine sem_loop cx (ι := Nat) (fun i => i ≤ x.length) (fun i => [(1, .sure, LL y), (5, .sure, .list (.own r 0) 1 ((dig i (dif (vl (x.take i)) (vl (y.take i)) (B ^ i))).map u32)), (6, .sure, u64 (bor (vl (x.take i)) (vl (y.take i)))), (14, .sure, LL x), (15, .sure, ii x.length), (16, .sure, ii i)]) (fun i => [(r, .tok i)]) (fun i => x.length - i) 0 (Nat.zero_le _) (Sub.cons rfl rfl (Sub.cons rfl rfl (Sub.cons rfl (by simp [vl, u64, bor]) (Sub.cons rfl rfl (Sub.cons rfl (by rw [mx]; rfl) (Sub.cons rfl rfl (Sub.nil _))))))) (Subp.refl _) ?_
  intro i hi
  have ml : ((dig i (dif (vl (x.take i)) (vl (y.take i)) (B ^ i))).map u32).length = i := by rw [List.length_map, dig_length]
  by_cases hix : i < x.length
  · have g1 : (x.map u32).getD (i : Int).toNat default = .v (.int .u32 (x[i] : Int)) := getD_u32 (n := i) rfl hix
    have bx := hx.get hix
    have ex := vl_take hix
    obtain ⟨p1, p2⟩ := hB i
    obtain ⟨b, hb, ey, hyv⟩ : ∃ b, b < B ∧ vl (y.take (i + 1)) = vl (y.take i) + B ^ i * b ∧ ((i < y.length ∧ (y.map u32).getD (i : Int).toNat default = .v (.int .u32 (b : Int))) ∨ (¬ i < y.length ∧ b = 0)) := by
      by_cases hiy : i < y.length
      · exact ⟨y[i], hy.get hiy, vl_take hiy, .inl ⟨hiy, getD_u32 (n := i) rfl hiy⟩⟩
      · exact ⟨0, B_pos, by rw [List.take_of_length_le (by omega), List.take_of_length_le (by omega)]; omega, .inr ⟨hiy, rfl⟩⟩
    obtain ⟨s1, s2⟩ := dif_step p1 p2 bx hb
    have s3 := bor_step (a := x[i]) (b := b) p1 p2
    have b1 : bor (vl (x.take i)) (vl (y.take i)) ≤ 1 := by unfold bor; split <;> omega
    have d1 := dig_step i (dif (vl (x.take i)) (vl (y.take i)) (B ^ i)) (x[i] + bor (vl (x.take i) + B ^ i * x[i]) (vl (y.take i) + B ^ i * b) * B - bor (vl (x.take i)) (vl (y.take i)) - b)
    rw [Nat.div_eq_of_lt (dif_lt p1 p2).1, Nat.zero_add, Nat.mod_eq_of_lt s2, ← s1, ← ex, ← ey, ← Nat.pow_succ] at d1
    rw [← ex, ← ey] at s3
    generalize bor (vl (x.take i)) (vl (y.take i)) = c at *
    generalize hk : bor (vl (x.take (i + 1))) (vl (y.take (i + 1))) = k at *
    generalize hxi : x[i] = a at *
    simp only [B] at bx hb
    rcases hyv with ⟨hiy, g2⟩ | ⟨hiy, hb0⟩
    · by_cases hab : a < c + b
      · rw [if_pos hab] at s3
        subst s3
        have hw : IntKind.u64.wrap ((a : Int) - (c + b)) = ((18446744073709551616 + a - c - b : Nat) : Int) := by rw [u64_wrap]; omega
        repeat' first | refine Ops.tag rfl ?_ | (refine OpsT.go ?_; (conv => arg 7; whnf)) | ((with_reducible refine Stp.isSum ?_); refine Stp.sum ?_) | ((with_reducible refine Stp.isSumU ?_); refine Stp.sumU ?_) | ((with_reducible refine Stp.isDec ?_); first | refine Stp.decT ?_) | refine Stp.pure rfl ?_ | ((with_reducible refine PutK.isSet ?_); refine PutK.set (by repeat first | exact HsetIs.hit) ?_) | refine PutK.mk' rfl ?_ | refine Ops.nil ?_ | ((with_reducible refine Look.id ?_); refine Look.auto ?_ (by repeat first | exact HGet.hit); try (conv => arg 7; whnf)) | ((with_reducible refine Side.id ?_); first | refine Side.auto ?_) | ((with_reducible refine Br.id ?_); first | (with_reducible first | refine br_true rfl ?_)) | ((with_reducible refine SemWp.id ?_); first | refine sem_seq ?_ | refine sem_region rfl ?_ | refine sem_cond rfl ?_ | refine sem_block ?_ | refine sem_skip ?_) | ((with_reducible refine qThen.id ?_); first | refine qThen.go ?_) | ((with_reducible refine hinBlock.id ?_); first | refine hinBlock.go ?_) | ((with_reducible refine hround.id ?_); first | refine hround.go ?_) | refine Stp.valS ?_ | refine Stp.look ?_ | refine Stp.call ?_ | refine Stp.eff ?_ | ((with_reducible refine CallWp.id ?_); first | refine Pur.call (low_specI _) ?_) | rw [g1] | rw [g2]
        exact Fin.mk ⟨i + 1, by omega, by omega, Sub.cons rfl rfl (Sub.cons rfl (by rw [d1]; exact congrArg _ (map_snoc _ _ _ (by rw [hw]; simp only [B]; omega))) (Sub.cons rfl (by rw [hw, hk]; exact congrArg (fun k => HV.v (.int .u64 k)) ((shr63 _).trans (by omega))) (Sub.cons rfl rfl (Sub.cons rfl rfl (Sub.cons rfl rfl (Sub.nil _)))))), Subp.of_eq rfl⟩
      · rw [if_neg hab] at s3
        subst s3
        repeat' first | refine Ops.tag rfl ?_ | (refine OpsT.go ?_; (conv => arg 7; whnf)) | ((with_reducible refine Stp.isSum ?_); refine Stp.sum ?_) | ((with_reducible refine Stp.isSumU ?_); refine Stp.sumU ?_) | ((with_reducible refine Stp.isDec ?_); first | refine Stp.decT ?_) | refine Stp.pure rfl ?_ | ((with_reducible refine PutK.isSet ?_); refine PutK.set (by repeat first | exact HsetIs.hit) ?_) | refine PutK.mk' rfl ?_ | refine Ops.nil ?_ | ((with_reducible refine Look.id ?_); refine Look.auto ?_ (by repeat first | exact HGet.hit); try (conv => arg 7; whnf)) | ((with_reducible refine Side.id ?_); first | refine Side.auto ?_) | ((with_reducible refine Br.id ?_); first | (with_reducible first | refine br_true rfl ?_)) | ((with_reducible refine SemWp.id ?_); first | refine sem_seq ?_ | refine sem_region rfl ?_ | refine sem_cond rfl ?_ | refine sem_block ?_ | refine sem_skip ?_) | ((with_reducible refine qThen.id ?_); first | refine qThen.go ?_) | ((with_reducible refine hinBlock.id ?_); first | refine hinBlock.go ?_) | ((with_reducible refine hround.id ?_); first | refine hround.go ?_) | refine Stp.valS ?_ | refine Stp.look ?_ | refine Stp.call ?_ | refine Stp.eff ?_ | ((with_reducible refine CallWp.id ?_); first | refine Pur.call (low_specI _) ?_) | rw [g1] | rw [g2]
        have hw : (a : Int) - (c + b) = ((a - c - b : Nat) : Int) := by omega
        exact Fin.mk ⟨i + 1, by omega, by omega, Sub.cons rfl rfl (Sub.cons rfl (by rw [d1]; exact congrArg _ (map_snoc _ _ _ (by simp only [B]; omega))) (Sub.cons rfl (by rw [hw, hk]; exact congrArg (fun k => HV.v (.int .u64 k)) ((shr63 _).trans (by omega))) (Sub.cons rfl rfl (Sub.cons rfl rfl (Sub.cons rfl rfl (Sub.nil _)))))), Subp.of_eq rfl⟩
    · subst hb0
      by_cases hab : a < c + 0
      · rw [if_pos hab] at s3
        subst s3
        have hw : IntKind.u64.wrap ((a : Int) - c) = ((18446744073709551616 + a - c : Nat) : Int) := by rw [u64_wrap]; omega
        repeat' first | refine Ops.tag rfl ?_ | (refine OpsT.go ?_; (conv => arg 7; whnf)) | ((with_reducible refine Stp.isSum ?_); refine Stp.sum ?_) | ((with_reducible refine Stp.isSumU ?_); refine Stp.sumU ?_) | ((with_reducible refine Stp.isDec ?_); first | refine Stp.decT ?_ | refine Stp.decF ?_) | refine Stp.pure rfl ?_ | ((with_reducible refine PutK.isSet ?_); refine PutK.set (by repeat first | exact HsetIs.hit) ?_) | refine PutK.mk' rfl ?_ | refine Ops.nil ?_ | ((with_reducible refine Look.id ?_); refine Look.auto ?_ (by repeat first | exact HGet.hit); try (conv => arg 7; whnf)) | ((with_reducible refine Side.id ?_); first | refine Side.auto ?_) | ((with_reducible refine Br.id ?_); first | (with_reducible first | refine br_true rfl ?_ | refine br_false rfl ?_)) | ((with_reducible refine SemWp.id ?_); first | refine sem_seq ?_ | refine sem_region rfl ?_ | refine sem_cond rfl ?_ | refine sem_block ?_ | refine sem_skip ?_) | ((with_reducible refine qThen.id ?_); first | refine qThen.go ?_) | ((with_reducible refine hinBlock.id ?_); first | refine hinBlock.go ?_) | ((with_reducible refine hround.id ?_); first | refine hround.go ?_) | refine Stp.valS ?_ | refine Stp.look ?_ | refine Stp.call ?_ | refine Stp.eff ?_ | ((with_reducible refine CallWp.id ?_); first | refine Pur.call (low_specI _) ?_) | rw [g1]
        exact Fin.mk ⟨i + 1, by omega, by omega, Sub.cons rfl rfl (Sub.cons rfl (by rw [d1]; exact congrArg _ (map_snoc _ _ _ (by rw [hw]; simp only [B]; omega))) (Sub.cons rfl (by rw [hw, hk]; exact congrArg (fun k => HV.v (.int .u64 k)) ((shr63 _).trans (by omega))) (Sub.cons rfl rfl (Sub.cons rfl rfl (Sub.cons rfl rfl (Sub.nil _)))))), Subp.of_eq rfl⟩
      · rw [if_neg hab] at s3
        subst s3
        repeat' first | refine Ops.tag rfl ?_ | (refine OpsT.go ?_; (conv => arg 7; whnf)) | ((with_reducible refine Stp.isSum ?_); refine Stp.sum ?_) | ((with_reducible refine Stp.isSumU ?_); refine Stp.sumU ?_) | ((with_reducible refine Stp.isDec ?_); first | refine Stp.decT ?_ | refine Stp.decF ?_) | refine Stp.pure rfl ?_ | ((with_reducible refine PutK.isSet ?_); refine PutK.set (by repeat first | exact HsetIs.hit) ?_) | refine PutK.mk' rfl ?_ | refine Ops.nil ?_ | ((with_reducible refine Look.id ?_); refine Look.auto ?_ (by repeat first | exact HGet.hit); try (conv => arg 7; whnf)) | ((with_reducible refine Side.id ?_); first | refine Side.auto ?_) | ((with_reducible refine Br.id ?_); first | (with_reducible first | refine br_true rfl ?_ | refine br_false rfl ?_)) | ((with_reducible refine SemWp.id ?_); first | refine sem_seq ?_ | refine sem_region rfl ?_ | refine sem_cond rfl ?_ | refine sem_block ?_ | refine sem_skip ?_) | ((with_reducible refine qThen.id ?_); first | refine qThen.go ?_) | ((with_reducible refine hinBlock.id ?_); first | refine hinBlock.go ?_) | ((with_reducible refine hround.id ?_); first | refine hround.go ?_) | refine Stp.valS ?_ | refine Stp.look ?_ | refine Stp.call ?_ | refine Stp.eff ?_ | ((with_reducible refine CallWp.id ?_); first | refine Pur.call (low_specI _) ?_) | rw [g1]
        have hw : (a : Int) - c = ((a - c : Nat) : Int) := by omega
        exact Fin.mk ⟨i + 1, by omega, by omega, Sub.cons rfl rfl (Sub.cons rfl (by rw [d1]; exact congrArg _ (map_snoc _ _ _ (by simp only [B]; omega))) (Sub.cons rfl (by rw [hw, hk]; exact congrArg (fun k => HV.v (.int .u64 k)) ((shr63 _).trans (by omega))) (Sub.cons rfl rfl (Sub.cons rfl rfl (Sub.cons rfl rfl (Sub.nil _)))))), Subp.of_eq rfl⟩
  · have : i = x.length := by omega
    subst this
    rw [List.take_length, List.take_of_length_le hyx] at *
    have e : dif (vl x) (vl y) (B ^ x.length) = vl x - vl y := by unfold dif bor; rw [if_neg (by omega)]; simp
    rw [e] at *
    repeat' first | refine Ops.tag rfl ?_ | (refine OpsT.go ?_; (conv => arg 7; whnf)) | ((with_reducible refine Stp.isDec ?_); first | refine Stp.decF ?_) | refine Stp.pure rfl ?_ | refine Ops.nil ?_ | ((with_reducible refine Br.id ?_); first | (with_reducible first | refine br_false rfl ?_)) | ((with_reducible refine SemWp.id ?_); first | refine sem_seq ?_ | refine sem_region rfl ?_ | refine sem_cond rfl ?_ | refine sem_exit ?_ | refine sem_ret ?_) | ((with_reducible refine qThen.id ?_); first | refine qThen.go ?_) | ((with_reducible refine BodyR.id ?_); first | refine BodyR.ret ?_) | ((with_reducible refine ResG.id ?_); first | refine ResG.tmp rfl ?_ | refine ResG.nil ?_)
    exact Fin.weak (Weaker.tok _ _ _)
end Go.Proofs.Hk

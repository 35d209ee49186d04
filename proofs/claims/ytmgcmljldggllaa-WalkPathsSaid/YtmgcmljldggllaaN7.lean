import Derived.Test.YtmgcmljldggllaaN1
import Derived.Test.YtmgcmljldggllaaN5
set_option linter.unusedSimpArgs false
set_option linter.unusedVariables false
namespace Go.Proofs.Hk
open Go Go.Proofs

/-! The reference's numbers. -/
theorem rMay_spec (g : GI) (hg : g.Ok) : Pur cx 76 [encI g] (bb g.may) := by
  obtain ⟨n, l⟩ := g
  have hl : l.length ≤ 1099511627776 := hg.len
  have hm : (l.map u32).length = l.length := by simp
  change Pur cx _ [encP n l] _
  refine Pur.of (sem_calls' cx (fn := Try.f76) rfl rfl rfl rfl ?_)
  by_cases h0 : l.length = 0
  · have : l = [] := List.length_eq_zero_iff.1 h0
    subst this
    cases n
    · repeat' first | refine Ops.tag rfl ?_ | ((with_reducible first | refine OpsT.yes ?_); (conv => arg 7; whnf)) | (with_reducible first | refine OpsT.andF ?_ | refine OpsT.no ?_ | refine OpsT.no' ?_) | (refine OpsT.go ?_; (conv => arg 7; whnf)) | (with_reducible first | refine Stp.orT ?_ | refine Stp.andT ?_ | refine Stp.notF ?_) | ((with_reducible refine Stp.isEq ?_); first | refine Stp.eqT ?_) | refine Stp.pure rfl ?_ | refine PutK.mk' rfl ?_ | refine Ops.nil ?_ | ((with_reducible refine Look.id ?_); refine Look.auto ?_ (by repeat first | exact HGet.hit); try (conv => arg 7; whnf)) | ((with_reducible refine Side.id ?_); first | refine Side.auto ?_) | ((with_reducible refine SemWp.id ?_); first | refine sem_seq ?_ | refine sem_region rfl ?_ | refine sem_ret ?_) | ((with_reducible refine qThen.id ?_); first | refine qThen.go ?_) | refine Stp.valS ?_ | refine Stp.look ?_ | refine Stp.eff ?_ | (refine newN (fun r hr => ?_); simp only [keys, List.nil_append, List.cons_append, List.map_cons, List.map_nil, List.mem_cons, List.not_mem_nil, not_or, or_false, not_false_eq_true] at hr) | ((with_reducible refine BodyR.id ?_); first | refine BodyR.ret ?_) | ((with_reducible refine ResG.id ?_); first | refine ResG.tmp rfl ?_ | refine ResG.nil ?_)
      exact Fin.mk rfl
    · repeat' first | refine Ops.tag rfl ?_ | ((with_reducible first | refine OpsT.yes ?_ | refine OpsT.yes' ?_); (conv => arg 7; whnf)) | (with_reducible first | refine OpsT.no ?_) | (refine OpsT.go ?_; (conv => arg 7; whnf)) | (with_reducible first | refine Stp.orF ?_ | refine Stp.andT ?_ | refine Stp.andF ?_ | refine Stp.notT ?_) | ((with_reducible refine Stp.isDec ?_); first | refine Stp.decF ?_) | ((with_reducible refine Stp.isEq ?_); first | refine Stp.eqT ?_) | refine Stp.pure rfl ?_ | refine PutK.mk' rfl ?_ | refine Ops.nil ?_ | ((with_reducible refine Look.id ?_); refine Look.auto ?_ (by repeat first | exact HGet.hit); try (conv => arg 7; whnf)) | ((with_reducible refine Side.id ?_); first | refine Side.auto ?_) | ((with_reducible refine SemWp.id ?_); first | refine sem_seq ?_ | refine sem_region rfl ?_ | refine sem_ret ?_) | ((with_reducible refine qThen.id ?_); first | refine qThen.go ?_) | refine Stp.valS ?_ | refine Stp.look ?_ | refine Stp.eff ?_ | (refine newN (fun r hr => ?_); simp only [keys, List.nil_append, List.cons_append, List.map_cons, List.map_nil, List.mem_cons, List.not_mem_nil, not_or, or_false, not_false_eq_true] at hr) | ((with_reducible refine BodyR.id ?_); first | refine BodyR.ret ?_) | ((with_reducible refine ResG.id ?_); first | refine ResG.tmp rfl ?_ | refine ResG.nil ?_)
      exact Fin.mk rfl
  · have g1 : (l.map u32).getD (((l.map u32).length : Int) - 1).toNat default = .v (.int .u32 (l[l.length - 1]'(by omega) : Int)) := getD_u32 (n := l.length - 1) (by rw [hm]; omega) (by omega)
    repeat' first | refine Ops.tag rfl ?_ | ((with_reducible first | refine OpsT.yes ?_ | refine OpsT.yes' ?_); (conv => arg 7; whnf)) | (with_reducible first | refine OpsT.no ?_) | (refine OpsT.go ?_; (conv => arg 7; whnf)) | (with_reducible first | refine Stp.orF ?_ | refine Stp.andT ?_ | refine Stp.andF ?_) | ((with_reducible refine Stp.isSum ?_); refine Stp.sum ?_) | ((with_reducible refine Stp.isDec ?_); first | refine Stp.decT ?_) | ((with_reducible refine Stp.isEq ?_); first | refine Stp.eqF ?_) | refine Stp.pure rfl ?_ | refine PutK.mk' rfl ?_ | refine Ops.nil ?_ | ((with_reducible refine Look.id ?_); refine Look.auto ?_ (by repeat first | exact HGet.hit); try (conv => arg 7; whnf)) | ((with_reducible refine Side.id ?_); first | refine Side.auto ?_) | ((with_reducible refine SemWp.id ?_); first | refine sem_seq ?_ | refine sem_region rfl ?_ | refine sem_ret ?_) | ((with_reducible refine qThen.id ?_); first | refine qThen.go ?_) | refine Stp.valS ?_ | refine Stp.look ?_ | refine Stp.eff ?_ | (refine newN (fun r hr => ?_); simp only [keys, List.nil_append, List.cons_append, List.map_cons, List.map_nil, List.mem_cons, List.not_mem_nil, not_or, or_false, not_false_eq_true] at hr) | ((with_reducible refine BodyR.id ?_); first | refine BodyR.ret ?_) | ((with_reducible refine ResG.id ?_); first | refine ResG.tmp rfl ?_ | refine ResG.nil ?_) | rw [g1]
    all_goals exact Fin.mk (by rw [may_at (by omega)]; rfl)
theorem ofZ_toZ {g : GI} (hg : g.Ok) (hm : g.may = true) : ofZ (toZ g) = g := by
  obtain ⟨n, l⟩ := g
  have ht := may_top hm
  have hlim : Lim l := hg.lim
  unfold toZ
  rw [if_pos hm, sg_ofZ]
  show GI.mk (n && decide (vl l ≠ 0)) (nl (vl l)) = _
  rw [nl_vl hlim ht]
  cases l with
  | nil =>
    have : n = false := by simpa [GI.may] using hm
    subst this; rfl
  | cons x l =>
    have := vl_ne ht (by simp)
    rw [decide_eq_true this, Bool.and_true]
theorem ofZ_zero : ofZ 0 = ⟨false, []⟩ := by unfold ofZ; rw [show (0 : Int).natAbs = 0 from rfl, nl_zero]; rfl
theorem rnorm_spec (g : GI) (hg : g.Ok) : Pur cx 61 [encI g] (encI (ofZ (toZ g))) := by
  have hM := rMay_spec g hg
  have e : g.may = true → ofZ (toZ g) = g := ofZ_toZ hg
  obtain ⟨n, l⟩ := g
  change Pur cx _ [encP n l] _ at hM
  change Pur cx _ [encP n l] _
  refine Pur.ofW (sem_calls' cx (fn := Try.f61) rfl rfl rfl rfl ?_)
  cases hm : (GI.mk n l).may with
  | false =>
    rw [hm] at hM
    have : ofZ (toZ ⟨n, l⟩) = ⟨false, []⟩ := by
      unfold toZ; rw [if_neg (by rw [hm]; simp), ofZ_zero]
    rw [this]
    repeat' first | refine Ops.tag rfl ?_ | (refine OpsT.go ?_; (conv => arg 7; whnf)) | (with_reducible first | refine Stp.notF ?_) | refine Stp.pure rfl ?_ | ((with_reducible refine PutK.isSet ?_); refine PutK.set (by repeat first | exact HsetIs.hit) ?_) | refine PutK.mk' rfl ?_ | refine Ops.nil ?_ | ((with_reducible refine Look.id ?_); refine Look.auto ?_ (by repeat first | exact HGet.hit | apply HGet.miss (by omega)); try (conv => arg 7; whnf)) | ((with_reducible refine Side.id ?_); first | refine Side.auto ?_) | ((with_reducible refine Br.id ?_); first | (with_reducible first | refine br_true rfl ?_)) | ((with_reducible refine SemWp.id ?_); first | refine sem_seq ?_ | refine sem_region rfl ?_ | refine sem_cond rfl ?_ | refine sem_ret ?_) | ((with_reducible refine qThen.id ?_); first | refine qThen.go ?_ | refine qThen.ret ?_) | refine Stp.look ?_ | refine Stp.call ?_ | refine Stp.eff ?_ | ((with_reducible refine CallWp.id ?_); first | refine Pur.call (hM) ?_) | (refine newN (fun r hr => ?_); simp only [keys, List.nil_append, List.cons_append, List.map_cons, List.map_nil, List.mem_cons, List.not_mem_nil, not_or, or_false, not_false_eq_true] at hr) | ((with_reducible refine BodyR.id ?_); first | refine BodyR.ret ?_) | ((with_reducible refine ResG.id ?_); first | refine ResG.cell rfl ?_ | refine ResG.nil ?_) | ((with_reducible refine LoadIs.id ?_); first | refine LoadIs.agg (by repeat first | exact HGet.hit) rfl rfl rfl ?_) | ((with_reducible refine Upd.id ?_); first | (refine Upd.lit rfl ?_; (conv => whnf)))
    exact Fin.weak (Weaker.agg (.cons (Weaker.refl _) rfl (.cons (Weaker.nil 1) rfl .nil)))
  | true =>
    rw [hm] at hM
    rw [e hm]
    repeat' first | refine Ops.tag rfl ?_ | (refine OpsT.go ?_; (conv => arg 7; whnf)) | (with_reducible first | refine Stp.notT ?_) | refine Stp.pure rfl ?_ | ((with_reducible refine PutK.isSet ?_); refine PutK.set (by repeat first | exact HsetIs.hit) ?_) | refine PutK.mk' rfl ?_ | refine Ops.nil ?_ | ((with_reducible refine Look.id ?_); refine Look.auto ?_ (by repeat first | exact HGet.hit | apply HGet.miss (by omega)); try (conv => arg 7; whnf)) | ((with_reducible refine Side.id ?_); first | refine Side.auto ?_) | ((with_reducible refine Br.id ?_); first | (with_reducible first | refine br_false rfl ?_)) | ((with_reducible refine SemWp.id ?_); first | refine sem_seq ?_ | refine sem_region rfl ?_ | refine sem_cond rfl ?_ | refine sem_ret ?_ | refine sem_skip ?_) | ((with_reducible refine qThen.id ?_); first | refine qThen.go ?_) | refine Stp.look ?_ | refine Stp.call ?_ | refine Stp.eff ?_ | ((with_reducible refine CallWp.id ?_); first | refine Pur.call (hM) ?_) | (refine newN (fun r hr => ?_); simp only [keys, List.nil_append, List.cons_append, List.map_cons, List.map_nil, List.mem_cons, List.not_mem_nil, not_or, or_false, not_false_eq_true] at hr) | ((with_reducible refine BodyR.id ?_); first | refine BodyR.ret ?_) | ((with_reducible refine ResG.id ?_); first | refine ResG.cell rfl ?_ | refine ResG.nil ?_) | ((with_reducible refine LoadIs.id ?_); first | refine LoadIs.agg (by repeat first | exact HGet.hit) rfl rfl rfl ?_) | ((with_reducible refine Upd.id ?_); first | (refine Upd.lit rfl ?_; (conv => whnf)))
    exact Fin.weak (Weaker.refl _)
theorem rtrim_spec (l : List Nat) (hl : Lim l) (hn : l.length ≤ 1099511627776) : Pur cx 70 [LL l] (LL (nl (vl l))) := by
  have hm : (l.map u32).length = l.length := by simp
  refine Pur.ofW (sem_calls' cx (fn := Try.f70) rfl rfl rfl rfl ?_)
  repeat' first | refine Ops.tag rfl ?_ | (refine OpsT.go ?_; (conv => arg 7; whnf)) | refine Stp.pure rfl ?_ | refine Ops.nil ?_ | ((with_reducible refine SemWp.id ?_); first | refine sem_seq ?_ | refine sem_region rfl ?_ | refine sem_block ?_) | ((with_reducible refine qThen.id ?_); first | refine qThen.go ?_)
  refine sem_loop cx (ι := Nat) (fun k => k ≤ l.length ∧ ∀ j (hj : j < l.length), k ≤ j → l[j] = 0) (fun k => [(0, .sure, LL l), (3, .sure, ii k)]) (fun _ => []) (fun k => k) l.length ⟨Nat.le_refl _, fun j h1 h2 => by omega⟩ (Sub.cons rfl rfl (Sub.cons rfl (by rw [hm]; rfl) (Sub.nil _))) (Subp.refl _) ?_
  rintro k ⟨k1, k2⟩
  have hcut : List.drop 0 (List.take ((k : Int)).toNat (l.map u32)) = (l.take k).map u32 := by simp
  by_cases h0 : k = 0
  · subst h0
    have e := trim_eq hl (Nat.zero_le _) k2 (fun h => by omega)
    repeat' first | refine Ops.tag rfl ?_ | (with_reducible first | refine OpsT.no ?_) | (refine OpsT.go ?_; (conv => arg 7; whnf)) | (with_reducible first | refine Stp.andF ?_) | ((with_reducible refine Stp.isDec ?_); first | refine Stp.decF ?_) | refine Stp.pure rfl ?_ | refine PutK.mk' rfl ?_ | refine Ops.nil ?_ | ((with_reducible refine Side.id ?_); first | refine Side.auto ?_) | ((with_reducible refine Br.id ?_); first | (with_reducible first | refine br_false rfl ?_)) | ((with_reducible refine SemWp.id ?_); first | refine sem_seq ?_ | refine sem_region rfl ?_ | refine sem_cond rfl ?_ | refine sem_exit ?_ | refine sem_ret ?_) | ((with_reducible refine qThen.id ?_); first | refine qThen.go ?_) | refine Stp.valS ?_ | ((with_reducible refine BodyR.id ?_); first | refine BodyR.ret ?_) | ((with_reducible refine ResG.id ?_); first | refine ResG.tmp rfl ?_ | refine ResG.nil ?_)
    refine Fin.weak ?_
    rw [← e, LL, ← hcut]
    exact Weaker.refl _
  · have g1 : (l.map u32).getD ((k : Int) - 1).toNat default = .v (.int .u32 (l[k - 1]'(by omega) : Int)) := getD_u32 (n := k - 1) (by omega) (by omega)
    repeat' first | refine Ops.tag rfl ?_ | ((with_reducible first | refine OpsT.yes ?_); (conv => arg 7; whnf)) | (refine OpsT.go ?_; (conv => arg 7; whnf)) | (with_reducible first | refine Stp.andT ?_) | ((with_reducible refine Stp.isSum ?_); refine Stp.sum ?_) | ((with_reducible refine Stp.isDec ?_); first | refine Stp.decT ?_) | refine Stp.pure rfl ?_ | refine Ops.nil ?_ | ((with_reducible refine Side.id ?_); first | refine Side.auto ?_) | ((with_reducible refine Br.id ?_); first | refine br_dec (fun _ => ?_) (fun _ => ?_)) | ((with_reducible refine SemWp.id ?_); first | refine sem_seq ?_ | refine sem_region rfl ?_ | refine sem_cond rfl ?_ | refine sem_block ?_ | refine sem_exit ?_ | refine sem_ret ?_ | refine sem_skip ?_) | ((with_reducible refine qThen.id ?_); first | refine qThen.go ?_) | ((with_reducible refine hinBlock.id ?_); first | refine hinBlock.go ?_) | ((with_reducible refine hround.id ?_); first | refine hround.go ?_) | refine Stp.valS ?_ | ((with_reducible refine BodyR.id ?_); first | refine BodyR.ret ?_) | ((with_reducible refine ResG.id ?_); first | refine ResG.tmp rfl ?_ | refine ResG.nil ?_) | rw [g1]
    · rename_i hz
      have hz : l[k - 1]'(by omega) = 0 := by omega
      refine Fin.mk ⟨k - 1, ⟨by omega, fun j h1 h2 => ?_⟩, by omega, Sub.cons rfl rfl (Sub.cons rfl ?_ (Sub.nil _)), Subp.refl _⟩
      · rcases Nat.eq_or_lt_of_le h2 with rfl | h2
        · exact hz
        · exact k2 j h1 (by omega)
      · show HV.v (.int .i64 _) = ii _
        rw [show ((k - 1 : Nat) : Int) = (k : Int) - 1 from by omega]; rfl
    · rename_i hz
      have e := trim_eq hl k1 k2 (fun h => by omega)
      refine Fin.weak ?_
      rw [← e, LL, ← hcut]
      exact Weaker.refl _
theorem rmk_spec (n : Bool) (l : List Nat) (hl : Lim l) (hn : l.length ≤ 1099511627776) : Pur cx 53 [bb n, LL l] (encI (ofZ (sg n (vl l)))) := by
  have hT := rtrim_spec l hl hn
  have hlen : (nl (vl l)).length ≤ l.length := nl_len_lt (vl_lt hl)
  have hm : ((nl (vl l)).map u32).length = (nl (vl l)).length := by simp
  rw [sg_ofZ]
  change Pur cx _ _ (encP _ _)
  refine Pur.ofW (sem_calls' cx (fn := Try.f53) rfl rfl rfl rfl ?_)
  by_cases h0 : vl l = 0
  · rw [h0, nl_zero] at hT ⊢
    repeat' first | refine Ops.tag rfl ?_ | (refine OpsT.go ?_; (conv => arg 7; whnf)) | refine Stp.pure rfl ?_ | ((with_reducible refine PutK.isSet ?_); refine PutK.set (by repeat first | exact HsetIs.hit) ?_) | refine PutK.mk' rfl ?_ | refine Ops.nil ?_ | ((with_reducible refine Look.id ?_); refine Look.auto ?_ (by repeat first | exact HGet.hit); try (conv => arg 7; whnf)) | ((with_reducible refine Side.id ?_); first | refine Side.auto ?_) | ((with_reducible refine Br.id ?_); first | (with_reducible first | refine br_true rfl ?_)) | ((with_reducible refine SemWp.id ?_); first | refine sem_seq ?_ | refine sem_region rfl ?_ | refine sem_cond rfl ?_ | refine sem_ret ?_) | ((with_reducible refine qThen.id ?_); first | refine qThen.go ?_ | refine qThen.ret ?_) | refine Stp.look ?_ | refine Stp.call ?_ | refine Stp.eff ?_ | ((with_reducible refine CallWp.id ?_); first | refine Pur.call (hT) ?_) | (refine newN (fun r hr => ?_); simp only [keys, List.nil_append, List.cons_append, List.map_cons, List.map_nil, List.mem_cons, List.not_mem_nil, not_or, or_false, not_false_eq_true] at hr) | ((with_reducible refine BodyR.id ?_); first | refine BodyR.ret ?_) | ((with_reducible refine ResG.id ?_); first | refine ResG.cell rfl ?_ | refine ResG.nil ?_) | ((with_reducible refine LoadIs.id ?_); first | refine LoadIs.agg (by repeat first | exact HGet.hit) rfl rfl rfl ?_) | ((with_reducible refine Upd.id ?_); first | (refine Upd.lit rfl ?_; (conv => whnf)))
    exact Fin.weak (Weaker.agg (.cons (Weaker.eq (by cases n <;> rfl)) rfl (.cons (Weaker.nil 1) rfl .nil)))
  · have hp := nl_len_pos h0
    have hne : (nl (vl l)).map u32 ≠ [] := fun e => by rw [e] at hm; simp at hm; omega
    repeat' first | refine Ops.tag rfl ?_ | (refine OpsT.go ?_; (conv => arg 7; whnf)) | ((with_reducible refine Stp.isEq ?_); first | refine Stp.eqF ?_) | refine Stp.pure rfl ?_ | ((with_reducible refine PutK.isSet ?_); refine PutK.set (by repeat first | exact HsetIs.hit | apply HsetIs.miss (by omega)) ?_) | refine PutK.mk' rfl ?_ | refine Ops.nil ?_ | ((with_reducible refine Look.id ?_); refine Look.auto ?_ (by repeat first | exact HGet.hit | apply HGet.miss (by omega)); try (conv => arg 7; whnf)) | ((with_reducible refine Side.id ?_); first | refine Side.auto ?_) | ((with_reducible refine Br.id ?_); first | (with_reducible first | refine br_false rfl ?_)) | ((with_reducible refine SemWp.id ?_); first | refine sem_seq ?_ | refine sem_region rfl ?_ | refine sem_cond rfl ?_ | refine sem_ret ?_ | refine sem_skip ?_) | ((with_reducible refine qThen.id ?_); first | refine qThen.go ?_) | refine Stp.look ?_ | refine Stp.call ?_ | refine Stp.eff ?_ | ((with_reducible refine CallWp.id ?_); first | refine Pur.call (hT) ?_) | (refine newN (fun r hr => ?_); simp only [keys, List.nil_append, List.cons_append, List.map_cons, List.map_nil, List.mem_cons, List.not_mem_nil, not_or, or_false, not_false_eq_true] at hr) | ((with_reducible refine BodyR.id ?_); first | refine BodyR.ret ?_) | ((with_reducible refine ResG.id ?_); first | refine ResG.cell rfl ?_ | refine ResG.nil ?_) | ((with_reducible refine LoadIs.id ?_); first | refine LoadIs.agg (by repeat first | exact HGet.hit | apply HGet.miss (by omega)) rfl rfl rfl ?_) | ((with_reducible refine Upd.id ?_); first | (refine Upd.lit rfl ?_; (conv => whnf))) | ((with_reducible refine Grow2.id ?_); refine Grow2.own ?_) | refine grow_split (fun _ => ?_) (fun _ => ?_)
    · contradiction
    · exact Fin.weak (Weaker.agg (.cons (Weaker.eq (by show bb n = bb _; rw [decide_eq_true h0, Bool.and_true])) rfl (.cons (Weaker.tok _ _ _) rfl .nil)))
end Go.Proofs.Hk

set_option linter.unusedSimpArgs false
set_option linter.unusedVariables false
namespace Go.Proofs.Hk
open Go Go.Proofs

theorem rcmp_spec (a b : List Nat) (ha : Lim a) (hb : Lim b) (ta : Top0 a) (tb : Top0 b) (na : a.length ≤ 1099511627776) (nb : b.length ≤ 1099511627776) :
    Pur cx 63 [LL a, LL b] (ii (cmpZ (vl a) (vl b))) := by
  have ma : (a.map u32).length = a.length := by simp
  have mb : (b.map u32).length = b.length := by simp
  refine Pur.of (sem_calls' cx (fn := Try.f63) rfl rfl rfl rfl ?_)
  by_cases hlen : a.length = b.length
  · repeat' first | refine Ops.tag rfl ?_ | (refine OpsT.go ?_; (conv => arg 7; whnf)) | ((with_reducible refine Stp.isSum ?_); refine Stp.sum ?_) | ((with_reducible refine Stp.isNe ?_); first | refine Stp.neF ?_) | refine Stp.pure rfl ?_ | refine Ops.nil ?_ | ((with_reducible refine Br.id ?_); first | (with_reducible first | refine br_false rfl ?_)) | ((with_reducible refine SemWp.id ?_); first | refine sem_seq ?_ | refine sem_region rfl ?_ | refine sem_cond rfl ?_ | refine sem_block ?_ | refine sem_skip ?_) | ((with_reducible refine qThen.id ?_); first | refine qThen.go ?_)
    refine sem_loop cx (ι := Nat) (fun k => k ≤ a.length ∧ ∀ j (hj : j < a.length), k ≤ j → a[j] = b[j]'(by omega)) (fun k => [(0, .sure, LL a), (1, .sure, LL b), (5, .sure, ii ((k : Int) - 1))]) (fun _ => []) (fun k => k) a.length ⟨Nat.le_refl _, fun j h1 h2 => by omega⟩ (Sub.cons rfl rfl (Sub.cons rfl rfl (Sub.cons rfl (by rw [ma]; rfl) (Sub.nil _)))) (Subp.nil _) ?_
    rintro k ⟨k1, k2⟩
    by_cases h0 : k = 0
    · subst h0
      repeat' first | refine Ops.tag rfl ?_ | (refine OpsT.go ?_; (conv => arg 7; whnf)) | ((with_reducible refine Stp.isDec ?_); first | refine Stp.decF ?_) | refine Stp.pure rfl ?_ | refine Ops.nil ?_ | ((with_reducible refine Br.id ?_); first | (with_reducible first | refine br_false rfl ?_)) | ((with_reducible refine SemWp.id ?_); first | refine sem_seq ?_ | refine sem_region rfl ?_ | refine sem_cond rfl ?_ | refine sem_exit ?_ | refine sem_ret ?_) | ((with_reducible refine qThen.id ?_); first | refine qThen.go ?_) | ((with_reducible refine BodyR.id ?_); first | refine BodyR.ret ?_) | ((with_reducible refine ResG.id ?_); first | refine ResG.tmp rfl ?_ | refine ResG.nil ?_)
      have : a = b := List.ext_getElem hlen fun i h1 h2 => k2 i h1 (Nat.zero_le _)
      rw [this, cmpZ_eq rfl]
      exact Fin.mk rfl
    · have hk : k - 1 < a.length := by omega
      have g1 : (a.map u32).getD ((k : Int) - 1).toNat default = .v (.int .u32 (a[k - 1] : Int)) := getD_u32 (n := k - 1) (by omega) hk
      have g2 : (b.map u32).getD ((k : Int) - 1).toNat default = .v (.int .u32 (b[k - 1]'(by omega) : Int)) := getD_u32 (n := k - 1) (by omega) (by omega)
      have hz1 : a[k - 1] < b[k - 1]'(by omega) → cmpZ (vl a) (vl b) = -1 := fun h => cmpZ_lt (Int.ofNat_lt.2 (vl_cmp_at ha hb hlen hk (fun j hj hkj => k2 j hj (by omega)) h))
      have hz2 : b[k - 1]'(by omega) < a[k - 1] → cmpZ (vl a) (vl b) = 1 := fun h => cmpZ_gt (Int.ofNat_lt.2 (vl_cmp_at hb ha hlen.symm (k := k - 1) (by omega) (fun j hj hkj => (k2 j (by omega) (by omega)).symm) h))
      generalize hx : a[k - 1] = x at *
      generalize hy : b[k - 1]'(by omega) = y at *
      repeat' first | refine Ops.tag rfl ?_ | (refine OpsT.go ?_; (conv => arg 7; whnf)) | ((with_reducible refine Stp.isSum ?_); refine Stp.sum ?_) | ((with_reducible refine Stp.isDec ?_); first | refine Stp.decT ?_) | refine Stp.pure rfl ?_ | refine Ops.nil ?_ | (refine DOps.cons rfl rfl ?_; (conv => arg 7; whnf)) | refine DStp.pure rfl ?_ | refine DOps.nil rfl ?_ | ((with_reducible refine Side.id ?_); first | refine Side.auto ?_) | ((with_reducible refine Br.id ?_); first | (with_reducible first | refine br_true rfl ?_) | refine br_dec (fun _ => ?_) (fun _ => ?_)) | ((with_reducible refine SemWp.id ?_); first | refine sem_seq ?_ | refine sem_region rfl ?_ | refine sem_cond rfl ?_ | refine sem_block ?_ | refine sem_ret ?_ | refine sem_skip ?_ | refine sem_draw ?_) | ((with_reducible refine qThen.id ?_); first | refine qThen.go ?_ | refine qThen.ret ?_) | ((with_reducible refine hinBlock.id ?_); first | refine hinBlock.go ?_ | refine hinBlock.ret ?_) | ((with_reducible refine hround.id ?_); first | refine hround.go ?_ | refine hround.ret ?_) | refine DStp.valS ?_ | ((with_reducible refine DrawReg.id ?_); refine drawQ' cx (by decide +kernel) rfl ?_) | ((with_reducible refine BodyR.id ?_); first | refine BodyR.ret ?_) | ((with_reducible refine ResG.id ?_); first | refine ResG.tmp rfl ?_ | refine ResG.nil ?_) | rw [g1] | rw [g2]
      · rename_i h
        exact Fin.mk (by rw [hz1 (by omega)]; rfl)
      · rename_i h h'
        exact Fin.mk (by rw [hz2 (by omega)]; rfl)
      · rename_i h h'
        have h : x = y := by omega
        refine Fin.mk ⟨k - 1, ⟨by omega, fun j h1 h2 => ?_⟩, by omega, Sub.cons rfl rfl (Sub.cons rfl rfl (Sub.cons rfl ?_ (Sub.nil _))), Subp.nil _⟩
        · rcases Nat.eq_or_lt_of_le h2 with rfl | h2
          · omega
          · exact k2 j h1 (by omega)
        · rw [show ((k - 1 : Nat) : Int) = (k : Int) - 1 from by omega]; rfl
  · repeat' first | refine Ops.tag rfl ?_ | (refine OpsT.go ?_; (conv => arg 7; whnf)) | ((with_reducible refine Stp.isNe ?_); first | refine Stp.neT ?_) | refine Stp.pure rfl ?_ | refine Ops.nil ?_ | ((with_reducible refine Br.id ?_); first | (with_reducible first | refine br_true rfl ?_) | refine br_dec (fun _ => ?_) (fun _ => ?_)) | ((with_reducible refine SemWp.id ?_); first | refine sem_seq ?_ | refine sem_region rfl ?_ | refine sem_cond rfl ?_ | refine sem_ret ?_ | refine sem_skip ?_) | ((with_reducible refine qThen.id ?_); first | refine qThen.go ?_ | refine qThen.ret ?_) | ((with_reducible refine BodyR.id ?_); first | refine BodyR.ret ?_) | ((with_reducible refine ResG.id ?_); first | refine ResG.tmp rfl ?_ | refine ResG.nil ?_)
    · rename_i h
      exact Fin.mk (by rw [cmpZ_lt (Int.ofNat_lt.2 (vl_lt_of_len ha tb (by omega)))]; rfl)
    · rename_i h
      exact Fin.mk (by rw [cmpZ_gt (Int.ofNat_lt.2 (vl_lt_of_len hb ta (by omega)))]; rfl)

set_option maxHeartbeats 1000000 in
theorem radd_spec (x y : List Nat) (hx : Lim x) (hy : Lim y) (nx : x.length ≤ 1000000000) (ny : y.length ≤ 1000000000) :
    Pur cx 62 [LL x, LL y] (LL (nl (vl x + vl y))) := by
  have mx : (x.map u32).length = x.length := by simp
  have my : (y.map u32).length = y.length := by simp
  have hB : ∀ i, vl (x.take i) < B ^ i ∧ vl (y.take i) < B ^ i := fun i => ⟨vl_take_lt hx i, vl_take_lt hy i⟩
  have hc : ∀ i, (vl (x.take i) + vl (y.take i)) / B ^ i ≤ 1 := fun i => by
    have := hB i
    exact Nat.le_of_lt_succ (Nat.div_lt_of_lt_mul (by omega))
  have step : ∀ (l : List Nat) (i : Nat), Lim l → ∃ b, b < 4294967296 ∧ vl (l.take (i + 1)) = vl (l.take i) + B ^ i * b ∧ ((i < l.length ∧ (l.map u32).getD (i : Int).toNat default = .v (.int .u32 (b : Int))) ∨ (¬ i < l.length ∧ b = 0)) := fun l i hl => by
    by_cases hi : i < l.length
    · exact ⟨l[i], hl.get hi, vl_take hi, .inl ⟨hi, getD_u32 (n := i) rfl hi⟩⟩
    · exact ⟨0, B_pos, by rw [List.take_of_length_le (by omega), List.take_of_length_le (by omega)]; omega, .inr ⟨hi, rfl⟩⟩
  refine Pur.ofW (sem_calls' cx (fn := Try.f62) rfl rfl rfl rfl ?_)
  repeat' first | refine Ops.tag rfl ?_ | (refine OpsT.go ?_; (conv => arg 7; whnf)) | refine Stp.pure rfl ?_ | refine Ops.nil ?_ | ((with_reducible refine SemWp.id ?_); first | refine sem_seq ?_ | refine sem_region rfl ?_ | refine sem_block ?_) | ((with_reducible refine qThen.id ?_); first | refine qThen.go ?_)
  refine sem_nil_own cx 5 1 rfl ?_
  intro r hr
  simp only [keys, List.map_cons, List.map_nil, List.mem_cons, List.not_mem_nil, not_or, or_false, not_false_eq_true] at hr
  refine sem_loop cx (ι := Nat) (fun i => i ≤ max x.length y.length + 1) (fun i => [(0, .sure, LL x), (1, .sure, LL y), (5, .sure, .list (.own r 0) 1 ((dig i (vl (x.take i) + vl (y.take i))).map u32)), (6, .sure, u64 ((vl (x.take i) + vl (y.take i)) / B ^ i)), (7, .sure, ii i)]) (fun i => [(r, .tok i)]) (fun i => max x.length y.length + 1 - i) 0 (Nat.zero_le _) (Sub.cons rfl rfl (Sub.cons rfl rfl (Sub.cons rfl rfl (Sub.cons rfl (by simp [vl, u64]) (Sub.cons rfl rfl (Sub.nil _)))))) (Subp.refl _) ?_
  intro i hi
  have hci := hc i
  have ml : ((dig i (vl (x.take i) + vl (y.take i))).map u32).length = i := by rw [List.length_map, dig_length]
  by_cases hend : x.length ≤ i ∧ y.length ≤ i ∧ (vl (x.take i) + vl (y.take i)) / B ^ i = 0
  · obtain ⟨e1, e2, e3⟩ := hend
    rw [e3]
    have hb := Nat.lt_of_div_eq_zero (Bp i) e3
    rw [List.take_of_length_le e1, List.take_of_length_le e2] at *
    have hT := rtrim_spec (dig i (vl x + vl y)) (dig_lim _ _) (by rw [dig_length]; omega)
    rw [vl_dig, Nat.mod_eq_of_lt hb] at hT
    have hT' : Pur cx 70 [.list (.own r 0) 1 ((dig i (vl x + vl y)).map u32)] (LL (nl (vl x + vl y))) := hT.arg (Weaker.tok _ _ _)
    repeat' first | refine Ops.tag rfl ?_ | ((with_reducible first | refine OpsT.yes' ?_); (conv => arg 7; whnf)) | (refine OpsT.go ?_; (conv => arg 7; whnf)) | (with_reducible first | refine Stp.orF ?_) | ((with_reducible refine Stp.isDec ?_); first | refine Stp.decF ?_) | refine Stp.pure rfl ?_ | refine PutK.mk' rfl ?_ | refine Ops.nil ?_ | ((with_reducible refine Side.id ?_); first | refine Side.auto ?_) | ((with_reducible refine Br.id ?_); first | (with_reducible first | refine br_false rfl ?_)) | ((with_reducible refine SemWp.id ?_); first | refine sem_seq ?_ | refine sem_region rfl ?_ | refine sem_cond rfl ?_ | refine sem_exit ?_ | refine sem_ret ?_) | ((with_reducible refine qThen.id ?_); first | refine qThen.go ?_) | refine Stp.call ?_ | ((with_reducible refine CallWp.id ?_); first | refine Pur.call (hT') ?_) | ((with_reducible refine BodyR.id ?_); first | refine BodyR.ret ?_) | ((with_reducible refine ResG.id ?_); first | refine ResG.tmp rfl ?_ | refine ResG.nil ?_)
    exact Fin.weak (Weaker.refl _)
  · obtain ⟨a, ba, ea, ga⟩ := step x i hx
    obtain ⟨b, bb', eb, gb⟩ := step y i hy
    have hS : vl (x.take (i + 1)) + vl (y.take (i + 1)) = vl (x.take i) + vl (y.take i) + B ^ i * (a + b) := by rw [ea, eb, Nat.mul_add]; omega
    have d1 := dig_step i (vl (x.take i) + vl (y.take i)) (a + b)
    have d2 := div_step i (vl (x.take i) + vl (y.take i)) (a + b)
    rw [← hS] at d1 d2
    have hmax : i < max x.length y.length + 1 := by
      rcases Nat.lt_or_ge i (max x.length y.length + 1) with h | h
      · exact h
      · exfalso
        apply hend
        refine ⟨by omega, by omega, ?_⟩
        have e1 : vl x + vl y < B ^ i := by
          have hm : i = max x.length y.length + 1 := by omega
          have v1 := vl_lt hx
          have v2 := vl_lt hy
          have p1 : B ^ x.length ≤ B ^ (max x.length y.length) := Nat.pow_le_pow_right B_pos (by omega)
          have p2 : B ^ y.length ≤ B ^ (max x.length y.length) := Nat.pow_le_pow_right B_pos (by omega)
          have p3 : B ^ (max x.length y.length) * 2 ≤ B ^ (max x.length y.length) * B := Nat.mul_le_mul_left _ (by decide)
          rw [hm, Nat.pow_succ]
          omega
        rw [List.take_of_length_le (by omega), List.take_of_length_le (by omega)]
        exact Nat.div_eq_of_lt e1
    generalize hcc : (vl (x.take i) + vl (y.take i)) / B ^ i = c at *
    rcases ga with ⟨hix, ga⟩ | ⟨hix, rfl⟩ <;> rcases gb with ⟨hiy, gb⟩ | ⟨hiy, rfl⟩
    · repeat' first | refine Ops.tag rfl ?_ | (with_reducible first | refine OpsT.no' ?_) | (refine OpsT.go ?_; (conv => arg 7; whnf)) | (with_reducible first | refine Stp.orT ?_) | ((with_reducible refine Stp.isSum ?_); refine Stp.sum ?_) | ((with_reducible refine Stp.isSumU ?_); refine Stp.sumU ?_) | ((with_reducible refine Stp.isDec ?_); first | refine Stp.decT ?_) | refine Stp.pure rfl ?_ | ((with_reducible refine PutK.isSet ?_); refine PutK.set (by repeat first | exact HsetIs.hit) ?_) | refine PutK.mk' rfl ?_ | refine Ops.nil ?_ | ((with_reducible refine Look.id ?_); refine Look.auto ?_ (by repeat first | exact HGet.hit); try (conv => arg 7; whnf)) | ((with_reducible refine Side.id ?_); first | refine Side.auto ?_) | ((with_reducible refine Br.id ?_); first | (with_reducible first | refine br_true rfl ?_)) | ((with_reducible refine SemWp.id ?_); first | refine sem_seq ?_ | refine sem_region rfl ?_ | refine sem_cond rfl ?_ | refine sem_block ?_ | refine sem_skip ?_) | ((with_reducible refine qThen.id ?_); first | refine qThen.go ?_) | ((with_reducible refine hinBlock.id ?_); first | refine hinBlock.go ?_) | ((with_reducible refine hround.id ?_); first | refine hround.go ?_) | refine Stp.valS ?_ | refine Stp.look ?_ | refine Stp.eff ?_ | rw [ga] | rw [gb]
      have z : ((c : Int) + a + b) = ((c + (a + b) : Nat) : Int) := by omega
      exact Fin.mk ⟨i + 1, by omega, by omega, Sub.cons rfl rfl (Sub.cons rfl rfl (Sub.cons rfl (by rw [z, IntKind.wrap_u32, mod32, d1]; exact congrArg _ (map_snoc _ _ _ rfl)) (Sub.cons rfl (by rw [z, d2]; exact congrArg (fun k => HV.v (.int .u64 k)) (shr32 _)) (Sub.cons rfl rfl (Sub.nil _))))), Subp.of_eq rfl⟩
    · repeat' first | refine Ops.tag rfl ?_ | (with_reducible first | refine OpsT.no' ?_) | (refine OpsT.go ?_; (conv => arg 7; whnf)) | (with_reducible first | refine Stp.orT ?_) | ((with_reducible refine Stp.isSum ?_); refine Stp.sum ?_) | ((with_reducible refine Stp.isSumU ?_); refine Stp.sumU ?_) | ((with_reducible refine Stp.isDec ?_); first | refine Stp.decT ?_ | refine Stp.decF ?_) | refine Stp.pure rfl ?_ | ((with_reducible refine PutK.isSet ?_); refine PutK.set (by repeat first | exact HsetIs.hit) ?_) | refine PutK.mk' rfl ?_ | refine Ops.nil ?_ | ((with_reducible refine Look.id ?_); refine Look.auto ?_ (by repeat first | exact HGet.hit); try (conv => arg 7; whnf)) | ((with_reducible refine Side.id ?_); first | refine Side.auto ?_) | ((with_reducible refine Br.id ?_); first | (with_reducible first | refine br_true rfl ?_ | refine br_false rfl ?_)) | ((with_reducible refine SemWp.id ?_); first | refine sem_seq ?_ | refine sem_region rfl ?_ | refine sem_cond rfl ?_ | refine sem_block ?_ | refine sem_skip ?_) | ((with_reducible refine qThen.id ?_); first | refine qThen.go ?_) | ((with_reducible refine hinBlock.id ?_); first | refine hinBlock.go ?_) | ((with_reducible refine hround.id ?_); first | refine hround.go ?_) | refine Stp.valS ?_ | refine Stp.look ?_ | refine Stp.eff ?_ | rw [ga]
      have z : ((c : Int) + a) = ((c + (a + 0) : Nat) : Int) := by omega
      exact Fin.mk ⟨i + 1, by omega, by omega, Sub.cons rfl rfl (Sub.cons rfl rfl (Sub.cons rfl (by rw [z, IntKind.wrap_u32, mod32, d1]; exact congrArg _ (map_snoc _ _ _ rfl)) (Sub.cons rfl (by rw [z, d2]; exact congrArg (fun k => HV.v (.int .u64 k)) (shr32 _)) (Sub.cons rfl rfl (Sub.nil _))))), Subp.of_eq rfl⟩
    · repeat' first | refine Ops.tag rfl ?_ | ((with_reducible first | refine OpsT.yes' ?_); (conv => arg 7; whnf)) | (with_reducible first | refine OpsT.no' ?_) | (refine OpsT.go ?_; (conv => arg 7; whnf)) | (with_reducible first | refine Stp.orF ?_ | refine Stp.orT ?_) | ((with_reducible refine Stp.isSum ?_); refine Stp.sum ?_) | ((with_reducible refine Stp.isSumU ?_); refine Stp.sumU ?_) | ((with_reducible refine Stp.isDec ?_); first | refine Stp.decT ?_ | refine Stp.decF ?_) | refine Stp.pure rfl ?_ | ((with_reducible refine PutK.isSet ?_); refine PutK.set (by repeat first | exact HsetIs.hit) ?_) | refine PutK.mk' rfl ?_ | refine Ops.nil ?_ | ((with_reducible refine Look.id ?_); refine Look.auto ?_ (by repeat first | exact HGet.hit); try (conv => arg 7; whnf)) | ((with_reducible refine Side.id ?_); first | refine Side.auto ?_) | ((with_reducible refine Br.id ?_); first | (with_reducible first | refine br_true rfl ?_ | refine br_false rfl ?_)) | ((with_reducible refine SemWp.id ?_); first | refine sem_seq ?_ | refine sem_region rfl ?_ | refine sem_cond rfl ?_ | refine sem_block ?_ | refine sem_skip ?_) | ((with_reducible refine qThen.id ?_); first | refine qThen.go ?_) | ((with_reducible refine hinBlock.id ?_); first | refine hinBlock.go ?_) | ((with_reducible refine hround.id ?_); first | refine hround.go ?_) | refine Stp.valS ?_ | refine Stp.look ?_ | refine Stp.eff ?_ | rw [gb]
      have z : ((c : Int) + b) = ((c + (0 + b) : Nat) : Int) := by omega
      exact Fin.mk ⟨i + 1, by omega, by omega, Sub.cons rfl rfl (Sub.cons rfl rfl (Sub.cons rfl (by rw [z, IntKind.wrap_u32, mod32, d1]; exact congrArg _ (map_snoc _ _ _ rfl)) (Sub.cons rfl (by rw [z, d2]; exact congrArg (fun k => HV.v (.int .u64 k)) (shr32 _)) (Sub.cons rfl rfl (Sub.nil _))))), Subp.of_eq rfl⟩
    · have hc0 : 0 < c := by
        rcases Nat.eq_zero_or_pos c with h | h
        · exact absurd ⟨by omega, by omega, h⟩ hend
        · exact h
      repeat' first | refine Ops.tag rfl ?_ | ((with_reducible first | refine OpsT.yes' ?_); (conv => arg 7; whnf)) | (refine OpsT.go ?_; (conv => arg 7; whnf)) | (with_reducible first | refine Stp.orF ?_) | ((with_reducible refine Stp.isSum ?_); refine Stp.sum ?_) | ((with_reducible refine Stp.isSum3 ?_); refine Stp.sum3 ?_) | ((with_reducible refine Stp.isDec ?_); first | refine Stp.decT ?_ | refine Stp.decF ?_) | refine Stp.pure rfl ?_ | ((with_reducible refine PutK.isSet ?_); refine PutK.set (by repeat first | exact HsetIs.hit) ?_) | refine PutK.mk' rfl ?_ | refine Ops.nil ?_ | ((with_reducible refine Look.id ?_); refine Look.auto ?_ (by repeat first | exact HGet.hit); try (conv => arg 7; whnf)) | ((with_reducible refine Side.id ?_); first | refine Side.auto ?_) | ((with_reducible refine Br.id ?_); first | (with_reducible first | refine br_true rfl ?_ | refine br_false rfl ?_)) | ((with_reducible refine SemWp.id ?_); first | refine sem_seq ?_ | refine sem_region rfl ?_ | refine sem_cond rfl ?_ | refine sem_block ?_ | refine sem_skip ?_) | ((with_reducible refine qThen.id ?_); first | refine qThen.go ?_) | ((with_reducible refine hinBlock.id ?_); first | refine hinBlock.go ?_) | ((with_reducible refine hround.id ?_); first | refine hround.go ?_) | refine Stp.valS ?_ | refine Stp.look ?_ | refine Stp.eff ?_
      exact Fin.mk ⟨i + 1, by omega, by omega, Sub.cons rfl rfl (Sub.cons rfl rfl (Sub.cons rfl (by rw [d1]; exact congrArg _ (map_snoc _ _ _ (by simp only [B]; omega))) (Sub.cons rfl (by rw [d2]; exact congrArg (fun k => HV.v (.int .u64 k)) (shr32 c)) (Sub.cons rfl rfl (Sub.nil _))))), Subp.of_eq rfl⟩
end Go.Proofs.Hk

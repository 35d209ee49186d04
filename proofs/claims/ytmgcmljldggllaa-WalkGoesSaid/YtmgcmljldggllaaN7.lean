import Derived.Test.YtmgcmljldggllaaN6
set_option linter.unusedSimpArgs false
set_option linter.unusedVariables false
namespace Go.Proofs.Hk
open Go Go.Proofs

/-! The reference's numbers. -/
theorem rMay_spec (g : GI) (hg : g.Ok) : Pur cx 76 [encI g] (bb g.may) := by
  obtain ⟨n, l⟩ := g
  have hl : l.length ≤ 1099511627776 := hg.len
  have hm : (l.map u32).length = l.length := by simp
  change Pur cx _ [encP n l] _
  refine Pur.of (sem_calls' cx (fn := Try.f76) rfl rfl rfl rfl ?_)
  by_cases h0 : l.length = 0
  · have : l = [] := List.length_eq_zero_iff.1 h0
    subst this
    cases n
    · repeat' first | refine Ops.tag rfl ?_ | ((with_reducible first | refine OpsT.yes ?_); (conv => arg 7; whnf)) | (with_reducible first | refine OpsT.andF ?_ | refine OpsT.no ?_ | refine OpsT.no' ?_) | (refine OpsT.go ?_; (conv => arg 7; whnf)) | (with_reducible first | refine Stp.orT ?_ | refine Stp.andT ?_ | refine Stp.notF ?_) | ((with_reducible refine Stp.isEq ?_); first | refine Stp.eqT ?_) | refine Stp.pure rfl ?_ | refine PutK.mk' rfl ?_ | refine Ops.nil ?_ | ((with_reducible refine Look.id ?_); refine Look.auto ?_ (by repeat first | exact HGet.hit); try (conv => arg 7; whnf)) | ((with_reducible refine Side.id ?_); first | refine Side.auto ?_) | ((with_reducible refine SemWp.id ?_); first | refine sem_seq ?_ | refine sem_region rfl ?_ | refine sem_ret ?_) | ((with_reducible refine qThen.id ?_); first | refine qThen.go ?_) | refine Stp.valS ?_ | refine Stp.look ?_ | refine Stp.eff ?_ | (refine newN (fun r hr => ?_); simp only [keys, List.nil_append, List.cons_append, List.map_cons, List.map_nil, List.mem_cons, List.not_mem_nil, not_or, or_false, not_false_eq_true] at hr) | ((with_reducible refine BodyR.id ?_); first | refine BodyR.ret ?_) | ((with_reducible refine ResG.id ?_); first | refine ResG.tmp rfl ?_ | refine ResG.nil ?_)
      exact Fin.mk rfl
    · repeat' first | refine Ops.tag rfl ?_ | ((with_reducible first | refine OpsT.yes ?_ | refine OpsT.yes' ?_); (conv => arg 7; whnf)) | (with_reducible first | refine OpsT.no ?_) | (refine OpsT.go ?_; (conv => arg 7; whnf)) | (with_reducible first | refine Stp.orF ?_ | refine Stp.andT ?_ | refine Stp.andF ?_ | refine Stp.notT ?_) | ((with_reducible refine Stp.isDec ?_); first | refine Stp.decF ?_) | ((with_reducible refine Stp.isEq ?_); first | refine Stp.eqT ?_) | refine Stp.pure rfl ?_ | refine PutK.mk' rfl ?_ | refine Ops.nil ?_ | ((with_reducible refine Look.id ?_); refine Look.auto ?_ (by repeat first | exact HGet.hit); try (conv => arg 7; whnf)) | ((with_reducible refine Side.id ?_); first | refine Side.auto ?_) | ((with_reducible refine SemWp.id ?_); first | refine sem_seq ?_ | refine sem_region rfl ?_ | refine sem_ret ?_) | ((with_reducible refine qThen.id ?_); first | refine qThen.go ?_) | refine Stp.valS ?_ | refine Stp.look ?_ | refine Stp.eff ?_ | (refine newN (fun r hr => ?_); simp only [keys, List.nil_append, List.cons_append, List.map_cons, List.map_nil, List.mem_cons, List.not_mem_nil, not_or, or_false, not_false_eq_true] at hr) | ((with_reducible refine BodyR.id ?_); first | refine BodyR.ret ?_) | ((with_reducible refine ResG.id ?_); first | refine ResG.tmp rfl ?_ | refine ResG.nil ?_)
      exact Fin.mk rfl
  · have g1 : (l.map u32).getD (((l.map u32).length : Int) - 1).toNat default = .v (.int .u32 (l[l.length - 1]'(by omega) : Int)) := getD_u32 (n := l.length - 1) (by rw [hm]; omega) (by omega)
    repeat' first | refine Ops.tag rfl ?_ | ((with_reducible first | refine OpsT.yes ?_ | refine OpsT.yes' ?_); (conv => arg 7; whnf)) | (with_reducible first | refine OpsT.no ?_) | (refine OpsT.go ?_; (conv => arg 7; whnf)) | (with_reducible first | refine Stp.orF ?_ | refine Stp.andT ?_ | refine Stp.andF ?_) | ((with_reducible refine Stp.isSum ?_); refine Stp.sum ?_) | ((with_reducible refine Stp.isDec ?_); first | refine Stp.decT ?_) | ((with_reducible refine Stp.isEq ?_); first | refine Stp.eqF ?_) | refine Stp.pure rfl ?_ | refine PutK.mk' rfl ?_ | refine Ops.nil ?_ | ((with_reducible refine Look.id ?_); refine Look.auto ?_ (by repeat first | exact HGet.hit); try (conv => arg 7; whnf)) | ((with_reducible refine Side.id ?_); first | refine Side.auto ?_) | ((with_reducible refine SemWp.id ?_); first | refine sem_seq ?_ | refine sem_region rfl ?_ | refine sem_ret ?_) | ((with_reducible refine qThen.id ?_); first | refine qThen.go ?_) | refine Stp.valS ?_ | refine Stp.look ?_ | refine Stp.eff ?_ | (refine newN (fun r hr => ?_); simp only [keys, List.nil_append, List.cons_append, List.map_cons, List.map_nil, List.mem_cons, List.not_mem_nil, not_or, or_false, not_false_eq_true] at hr) | ((with_reducible refine BodyR.id ?_); first | refine BodyR.ret ?_) | ((with_reducible refine ResG.id ?_); first | refine ResG.tmp rfl ?_ | refine ResG.nil ?_) | rw [g1]
    all_goals exact Fin.mk (by rw [may_at (by omega)]; rfl)
theorem ofZ_toZ {g : GI} (hg : g.Ok) (hm : g.may = true) : ofZ (toZ g) = g := by
  obtain ⟨n, l⟩ := g
  have ht := may_top hm
  have hlim : Lim l := hg.lim
  unfold toZ
  rw [if_pos hm, sg_ofZ]
  show GI.mk (n && decide (vl l ≠ 0)) (nl (vl l)) = _
  rw [nl_vl hlim ht]
  cases l with
  | nil =>
    have : n = false := by simpa [GI.may] using hm
    subst this; rfl
  | cons x l =>
    have := vl_ne ht (by simp)
    rw [decide_eq_true this, Bool.and_true]
theorem ofZ_zero : ofZ 0 = ⟨false, []⟩ := by unfold ofZ; rw [show (0 : Int).natAbs = 0 from rfl, nl_zero]; rfl
theorem rnorm_spec (g : GI) (hg : g.Ok) : Pur cx 61 [encI g] (encI (ofZ (toZ g))) := by
  have hM := rMay_spec g hg
  have e : g.may = true → ofZ (toZ g) = g := ofZ_toZ hg
  obtain ⟨n, l⟩ := g
  change Pur cx _ [encP n l] _ at hM
  change Pur cx _ [encP n l] _
  refine Pur.ofW (sem_calls' cx (fn := Try.f61) rfl rfl rfl rfl ?_)
  cases hm : (GI.mk n l).may with
  | false =>
    rw [hm] at hM
    have : ofZ (toZ ⟨n, l⟩) = ⟨false, []⟩ := by
      unfold toZ; rw [if_neg (by rw [hm]; simp), ofZ_zero]
    rw [this]
    repeat' first | refine Ops.tag rfl ?_ | (refine OpsT.go ?_; (conv => arg 7; whnf)) | (with_reducible first | refine Stp.notF ?_) | refine Stp.pure rfl ?_ | ((with_reducible refine PutK.isSet ?_); refine PutK.set (by repeat first | exact HsetIs.hit) ?_) | refine PutK.mk' rfl ?_ | refine Ops.nil ?_ | ((with_reducible refine Look.id ?_); refine Look.auto ?_ (by repeat first | exact HGet.hit | apply HGet.miss (by omega)); try (conv => arg 7; whnf)) | ((with_reducible refine Side.id ?_); first | refine Side.auto ?_) | ((with_reducible refine Br.id ?_); first | (with_reducible first | refine br_true rfl ?_)) | ((with_reducible refine SemWp.id ?_); first | refine sem_seq ?_ | refine sem_region rfl ?_ | refine sem_cond rfl ?_ | refine sem_ret ?_) | ((with_reducible refine qThen.id ?_); first | refine qThen.go ?_ | refine qThen.ret ?_) | refine Stp.look ?_ | refine Stp.call ?_ | refine Stp.eff ?_ | ((with_reducible refine CallWp.id ?_); first | refine Pur.call (hM) ?_) | (refine newN (fun r hr => ?_); simp only [keys, List.nil_append, List.cons_append, List.map_cons, List.map_nil, List.mem_cons, List.not_mem_nil, not_or, or_false, not_false_eq_true] at hr) | ((with_reducible refine BodyR.id ?_); first | refine BodyR.ret ?_) | ((with_reducible refine ResG.id ?_); first | refine ResG.cell rfl ?_ | refine ResG.nil ?_) | ((with_reducible refine LoadIs.id ?_); first | refine LoadIs.agg (by repeat first | exact HGet.hit) rfl rfl rfl ?_) | ((with_reducible refine Upd.id ?_); first | (refine Upd.lit rfl ?_; (conv => whnf)))
    exact Fin.weak (Weaker.agg (.cons (Weaker.refl _) rfl (.cons (Weaker.nil 1) rfl .nil)))
  | true =>
    rw [hm] at hM
    rw [e hm]
    repeat' first | refine Ops.tag rfl ?_ | (refine OpsT.go ?_; (conv => arg 7; whnf)) | (with_reducible first | refine Stp.notT ?_) | refine Stp.pure rfl ?_ | ((with_reducible refine PutK.isSet ?_); refine PutK.set (by repeat first | exact HsetIs.hit) ?_) | refine PutK.mk' rfl ?_ | refine Ops.nil ?_ | ((with_reducible refine Look.id ?_); refine Look.auto ?_ (by repeat first | exact HGet.hit | apply HGet.miss (by omega)); try (conv => arg 7; whnf)) | ((with_reducible refine Side.id ?_); first | refine Side.auto ?_) | ((with_reducible refine Br.id ?_); first | (with_reducible first | refine br_false rfl ?_)) | ((with_reducible refine SemWp.id ?_); first | refine sem_seq ?_ | refine sem_region rfl ?_ | refine sem_cond rfl ?_ | refine sem_ret ?_ | refine sem_skip ?_) | ((with_reducible refine qThen.id ?_); first | refine qThen.go ?_) | refine Stp.look ?_ | refine Stp.call ?_ | refine Stp.eff ?_ | ((with_reducible refine CallWp.id ?_); first | refine Pur.call (hM) ?_) | (refine newN (fun r hr => ?_); simp only [keys, List.nil_append, List.cons_append, List.map_cons, List.map_nil, List.mem_cons, List.not_mem_nil, not_or, or_false, not_false_eq_true] at hr) | ((with_reducible refine BodyR.id ?_); first | refine BodyR.ret ?_) | ((with_reducible refine ResG.id ?_); first | refine ResG.cell rfl ?_ | refine ResG.nil ?_) | ((with_reducible refine LoadIs.id ?_); first | refine LoadIs.agg (by repeat first | exact HGet.hit) rfl rfl rfl ?_) | ((with_reducible refine Upd.id ?_); first | (refine Upd.lit rfl ?_; (conv => whnf)))
    exact Fin.weak (Weaker.refl _)
theorem rtrim_spec (l : List Nat) (hl : Lim l) (hn : l.length ≤ 1099511627776) : Pur cx 70 [LL l] (LL (nl (vl l))) := by
  have hm : (l.map u32).length = l.length := by simp
  refine Pur.ofW (sem_calls' cx (fn := Try.f70) rfl rfl rfl rfl ?_)
  repeat' first | refine Ops.tag rfl ?_ | (refine OpsT.go ?_; (conv => arg 7; whnf)) | refine Stp.pure rfl ?_ | refine Ops.nil ?_ | ((with_reducible refine SemWp.id ?_); first | refine sem_seq ?_ | refine sem_region rfl ?_ | refine sem_block ?_) | ((with_reducible refine qThen.id ?_); first | refine qThen.go ?_)
  refine sem_loop cx (ι := Nat) (fun k => k ≤ l.length ∧ ∀ j (hj : j < l.length), k ≤ j → l[j] = 0) (fun k => [(0, .sure, LL l), (3, .sure, ii k)]) (fun _ => []) (fun k => k) l.length ⟨Nat.le_refl _, fun j h1 h2 => by omega⟩ (Sub.cons rfl rfl (Sub.cons rfl (by rw [hm]; rfl) (Sub.nil _))) (Subp.refl _) ?_
  rintro k ⟨k1, k2⟩
  have hcut : List.drop 0 (List.take ((k : Int)).toNat (l.map u32)) = (l.take k).map u32 := by simp
  by_cases h0 : k = 0
  · subst h0
    have e := trim_eq hl (Nat.zero_le _) k2 (fun h => by omega)
    repeat' first | refine Ops.tag rfl ?_ | (with_reducible first | refine OpsT.no ?_) | (refine OpsT.go ?_; (conv => arg 7; whnf)) | (with_reducible first | refine Stp.andF ?_) | ((with_reducible refine Stp.isDec ?_); first | refine Stp.decF ?_) | refine Stp.pure rfl ?_ | refine PutK.mk' rfl ?_ | refine Ops.nil ?_ | ((with_reducible refine Side.id ?_); first | refine Side.auto ?_) | ((with_reducible refine Br.id ?_); first | (with_reducible first | refine br_false rfl ?_)) | ((with_reducible refine SemWp.id ?_); first | refine sem_seq ?_ | refine sem_region rfl ?_ | refine sem_cond rfl ?_ | refine sem_exit ?_ | refine sem_ret ?_) | ((with_reducible refine qThen.id ?_); first | refine qThen.go ?_) | refine Stp.valS ?_ | ((with_reducible refine BodyR.id ?_); first | refine BodyR.ret ?_) | ((with_reducible refine ResG.id ?_); first | refine ResG.tmp rfl ?_ | refine ResG.nil ?_)
    refine Fin.weak ?_
    rw [← e, LL, ← hcut]
    exact Weaker.refl _
  · have g1 : (l.map u32).getD ((k : Int) - 1).toNat default = .v (.int .u32 (l[k - 1]'(by omega) : Int)) := getD_u32 (n := k - 1) (by omega) (by omega)
    repeat' first | refine Ops.tag rfl ?_ | ((with_reducible first | refine OpsT.yes ?_); (conv => arg 7; whnf)) | (refine OpsT.go ?_; (conv => arg 7; whnf)) | (with_reducible first | refine Stp.andT ?_) | ((with_reducible refine Stp.isSum ?_); refine Stp.sum ?_) | ((with_reducible refine Stp.isDec ?_); first | refine Stp.decT ?_) | refine Stp.pure rfl ?_ | refine Ops.nil ?_ | ((with_reducible refine Side.id ?_); first | refine Side.auto ?_) | ((with_reducible refine Br.id ?_); first | refine br_dec (fun _ => ?_) (fun _ => ?_)) | ((with_reducible refine SemWp.id ?_); first | refine sem_seq ?_ | refine sem_region rfl ?_ | refine sem_cond rfl ?_ | refine sem_block ?_ | refine sem_exit ?_ | refine sem_ret ?_ | refine sem_skip ?_) | ((with_reducible refine qThen.id ?_); first | refine qThen.go ?_) | ((with_reducible refine hinBlock.id ?_); first | refine hinBlock.go ?_) | ((with_reducible refine hround.id ?_); first | refine hround.go ?_) | refine Stp.valS ?_ | ((with_reducible refine BodyR.id ?_); first | refine BodyR.ret ?_) | ((with_reducible refine ResG.id ?_); first | refine ResG.tmp rfl ?_ | refine ResG.nil ?_) | rw [g1]
    · rename_i hz
      have hz : l[k - 1]'(by omega) = 0 := by omega
      refine Fin.mk ⟨k - 1, ⟨by omega, fun j h1 h2 => ?_⟩, by omega, Sub.cons rfl rfl (Sub.cons rfl ?_ (Sub.nil _)), Subp.refl _⟩
      · rcases Nat.eq_or_lt_of_le h2 with rfl | h2
        · exact hz
        · exact k2 j h1 (by omega)
      · show HV.v (.int .i64 _) = ii _
        rw [show ((k - 1 : Nat) : Int) = (k : Int) - 1 from by omega]; rfl
    · rename_i hz
      have e := trim_eq hl k1 k2 (fun h => by omega)
      refine Fin.weak ?_
      rw [← e, LL, ← hcut]
      exact Weaker.refl _
theorem rmk_spec (n : Bool) (l : List Nat) (hl : Lim l) (hn : l.length ≤ 1099511627776) : Pur cx 53 [bb n, LL l] (encI (ofZ (sg n (vl l)))) := by
  have hT := rtrim_spec l hl hn
  have hlen : (nl (vl l)).length ≤ l.length := nl_len_lt (vl_lt hl)
  have hm : ((nl (vl l)).map u32).length = (nl (vl l)).length := by simp
  rw [sg_ofZ]
  change Pur cx _ _ (encP _ _)
  refine Pur.ofW (sem_calls' cx (fn := Try.f53) rfl rfl rfl rfl ?_)
  by_cases h0 : vl l = 0
  · rw [h0, nl_zero] at hT ⊢
    repeat' first | refine Ops.tag rfl ?_ | (refine OpsT.go ?_; (conv => arg 7; whnf)) | refine Stp.pure rfl ?_ | ((with_reducible refine PutK.isSet ?_); refine PutK.set (by repeat first | exact HsetIs.hit) ?_) | refine PutK.mk' rfl ?_ | refine Ops.nil ?_ | ((with_reducible refine Look.id ?_); refine Look.auto ?_ (by repeat first | exact HGet.hit); try (conv => arg 7; whnf)) | ((with_reducible refine Side.id ?_); first | refine Side.auto ?_) | ((with_reducible refine Br.id ?_); first | (with_reducible first | refine br_true rfl ?_)) | ((with_reducible refine SemWp.id ?_); first | refine sem_seq ?_ | refine sem_region rfl ?_ | refine sem_cond rfl ?_ | refine sem_ret ?_) | ((with_reducible refine qThen.id ?_); first | refine qThen.go ?_ | refine qThen.ret ?_) | refine Stp.look ?_ | refine Stp.call ?_ | refine Stp.eff ?_ | ((with_reducible refine CallWp.id ?_); first | refine Pur.call (hT) ?_) | (refine newN (fun r hr => ?_); simp only [keys, List.nil_append, List.cons_append, List.map_cons, List.map_nil, List.mem_cons, List.not_mem_nil, not_or, or_false, not_false_eq_true] at hr) | ((with_reducible refine BodyR.id ?_); first | refine BodyR.ret ?_) | ((with_reducible refine ResG.id ?_); first | refine ResG.cell rfl ?_ | refine ResG.nil ?_) | ((with_reducible refine LoadIs.id ?_); first | refine LoadIs.agg (by repeat first | exact HGet.hit) rfl rfl rfl ?_) | ((with_reducible refine Upd.id ?_); first | (refine Upd.lit rfl ?_; (conv => whnf)))
    exact Fin.weak (Weaker.agg (.cons (Weaker.eq (by cases n <;> rfl)) rfl (.cons (Weaker.nil 1) rfl .nil)))
  · have hp := nl_len_pos h0
    have hne : (nl (vl l)).map u32 ≠ [] := fun e => by rw [e] at hm; simp at hm; omega
    repeat' first | refine Ops.tag rfl ?_ | (refine OpsT.go ?_; (conv => arg 7; whnf)) | ((with_reducible refine Stp.isEq ?_); first | refine Stp.eqF ?_) | refine Stp.pure rfl ?_ | ((with_reducible refine PutK.isSet ?_); refine PutK.set (by repeat first | exact HsetIs.hit | apply HsetIs.miss (by omega)) ?_) | refine PutK.mk' rfl ?_ | refine Ops.nil ?_ | ((with_reducible refine Look.id ?_); refine Look.auto ?_ (by repeat first | exact HGet.hit | apply HGet.miss (by omega)); try (conv => arg 7; whnf)) | ((with_reducible refine Side.id ?_); first | refine Side.auto ?_) | ((with_reducible refine Br.id ?_); first | (with_reducible first | refine br_false rfl ?_)) | ((with_reducible refine SemWp.id ?_); first | refine sem_seq ?_ | refine sem_region rfl ?_ | refine sem_cond rfl ?_ | refine sem_ret ?_ | refine sem_skip ?_) | ((with_reducible refine qThen.id ?_); first | refine qThen.go ?_) | refine Stp.look ?_ | refine Stp.call ?_ | refine Stp.eff ?_ | ((with_reducible refine CallWp.id ?_); first | refine Pur.call (hT) ?_) | (refine newN (fun r hr => ?_); simp only [keys, List.nil_append, List.cons_append, List.map_cons, List.map_nil, List.mem_cons, List.not_mem_nil, not_or, or_false, not_false_eq_true] at hr) | ((with_reducible refine BodyR.id ?_); first | refine BodyR.ret ?_) | ((with_reducible refine ResG.id ?_); first | refine ResG.cell rfl ?_ | refine ResG.nil ?_) | ((with_reducible refine LoadIs.id ?_); first | refine LoadIs.agg (by repeat first | exact HGet.hit | apply HGet.miss (by omega)) rfl rfl rfl ?_) | ((with_reducible refine Upd.id ?_); first | (refine Upd.lit rfl ?_; (conv => whnf))) | ((with_reducible refine Grow2.id ?_); refine Grow2.own ?_) | refine grow_split (fun _ => ?_) (fun _ => ?_)
    · contradiction
    · exact Fin.weak (Weaker.agg (.cons (Weaker.eq (by show bb n = bb _; rw [decide_eq_true h0, Bool.and_true])) rfl (.cons (Weaker.tok _ _ _) rfl .nil)))
end Go.Proofs.Hk

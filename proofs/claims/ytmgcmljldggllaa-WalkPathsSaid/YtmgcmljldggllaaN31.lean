import Derived.Test.YtmgcmljldggllaaN26
import Derived.Test.YtmgcmljldggllaaN29p
import Derived.Test.YtmgcmljldggllaaN30
import Derived.Test.YtmgcmljldggllaaN19
set_option linter.unusedSimpArgs false
set_option linter.unusedVariables false
namespace Go.Proofs.Hk
open Go Go.Proofs

theorem getD_st {l : List GS} {k : Int} {n : Nat} (hk : k = n) (h : n < l.length) : (l.map encS).getD k.toNat default = encS' l[n].path l[n].point l[n].store := by
  subst hk
  simp [List.getD_eq_getElem?_getD, h, encS]
structure LenS (s : GS) : Prop where
  path : s.path.length ≤ 9223372036854775807
  st : ∀ g ∈ s.store, g.l.length ≤ 1099511627776
  len : s.store.length ≤ 1000000
set_option maxHeartbeats 2000000 in
theorem Steps_spec (l : List GS) (hl : ∀ s ∈ l, LenS s) (hn : l.length ≤ 9223372036854775807) : Pur cx 27 [LSt l, LSt l] (bb true) := by
  have m : (l.map encS).length = l.length := by simp
  refine Pur.of (sem_calls' cx (fn := Try.f27) rfl rfl rfl rfl ?_)
  repeat' first | refine Ops.tag rfl ?_ | ((with_reducible first | refine OpsT.yes ?_ | refine OpsT.yes' ?_); (conv => arg 7; whnf)) | (with_reducible first | refine OpsT.andT ?_ | refine OpsT.andF ?_ | refine OpsT.no ?_ | refine OpsT.no' ?_) | (refine OpsT.go ?_; (conv => arg 7; whnf)) | (with_reducible first | refine Stp.orF ?_ | refine Stp.orT ?_ | refine Stp.andT ?_ | refine Stp.andF ?_ | refine Stp.notT ?_ | refine Stp.notF ?_ | refine Stp.andT2 ?_ | refine Stp.orF2 ?_) | ((with_reducible refine Stp.isSum ?_); refine Stp.sum ?_) | ((with_reducible refine Stp.isSumU ?_); refine Stp.sumU ?_) | ((with_reducible refine Stp.isSum3 ?_); refine Stp.sum3 ?_) | ((with_reducible refine Stp.isDec ?_); first | refine Stp.decT ?_ | refine Stp.decF ?_) | ((with_reducible refine Stp.isEq ?_); first | refine Stp.eqT ?_ | refine Stp.eqF ?_) | ((with_reducible refine Stp.isNe ?_); first | refine Stp.neT ?_ | refine Stp.neF ?_) | refine Stp.pure rfl ?_ | ((with_reducible refine PutK.isSet ?_); refine PutK.set (by repeat first | exact HsetIs.hit | apply HsetIs.miss (by omega)) ?_) | refine PutK.mk' rfl ?_ | refine Ops.nil ?_ | (refine DOps.cons rfl rfl ?_; (conv => arg 7; whnf)) | (with_reducible first | refine DStp.orF ?_ | refine DStp.orT ?_ | refine DStp.andT ?_ | refine DStp.andF ?_ | refine DStp.notT ?_ | refine DStp.notF ?_ | refine DStp.andT2 ?_ | refine DStp.orF2 ?_) | ((with_reducible refine DStp.isSum ?_); refine DStp.sum ?_) | ((with_reducible refine DStp.isSumU ?_); refine DStp.sumU ?_) | ((with_reducible refine DStp.isSum3 ?_); refine DStp.sum3 ?_) | ((with_reducible refine DStp.isDec ?_); first | refine DStp.decT ?_ | refine DStp.decF ?_) | ((with_reducible refine DStp.isEq ?_); first | refine DStp.eqT ?_ | refine DStp.eqF ?_) | ((with_reducible refine DStp.isNe ?_); first | refine DStp.neT ?_ | refine DStp.neF ?_) | refine DStp.pure rfl ?_ | refine PutD.mk' rfl ?_ | refine DOps.nil rfl ?_ | ((with_reducible refine Look.id ?_); refine Look.auto ?_ (by repeat first | exact HGet.hit | apply HGet.miss (by omega)); try (conv => arg 7; whnf)) | ((with_reducible refine Side.id ?_); first | refine Side.auto ?_) | ((with_reducible refine Br.id ?_); first | (with_reducible first | refine br_true rfl ?_ | refine br_false rfl ?_) | refine br_true (by with_reducible assumption) ?_ | refine br_false (by with_reducible assumption) ?_ | refine br_dec_t (by with_reducible assumption) ?_ | refine br_dec_f (by with_reducible assumption) ?_ | refine br_beq_t (by with_reducible assumption) ?_ | refine br_beq_f (by with_reducible assumption) ?_ | refine br_bne_t (by with_reducible assumption) ?_ | refine br_bne_f (by with_reducible assumption) ?_ | refine br_true rfl ?_ | refine br_false rfl ?_ | refine br_dec (fun _ => ?_) (fun _ => ?_) | refine br_beq (fun _ => ?_) (fun _ => ?_) | refine br_bne (fun _ => ?_) (fun _ => ?_) | refine br_split (fun _ => ?_) (fun _ => ?_)) | ((with_reducible refine SemWp.id ?_); first | refine sem_seq ?_ | refine sem_region rfl ?_ | refine sem_cond rfl ?_ | refine sem_block ?_ | refine sem_exit ?_ | refine sem_ret ?_ | refine sem_skip ?_ | refine sem_label ?_ | refine sem_draw ?_) | ((with_reducible refine qThen.id ?_); first | refine qThen.go ?_ | refine qThen.ret ?_ | refine qThen.exit ?_ | refine qThen.pan ?_) | ((with_reducible refine hinBlock.id ?_); first | refine hinBlock.go ?_ | refine hinBlock.ret ?_ | refine hinBlock.pan ?_ | refine hinBlock.here rfl ?_ | refine hinBlock.on rfl ?_) | ((with_reducible refine hround.id ?_); first | refine hround.go ?_ | refine hround.ret ?_ | refine hround.exit ?_ | refine hround.pan ?_) | ((with_reducible refine bodyQ.id ?_); first | refine bodyQ.ret rfl ?_ | refine bodyQ.ret2 rfl ?_ | refine bodyQ.ret0 rfl ?_ | refine bodyQ.go ?_ | refine bodyQ.pan ?_) | refine Stp.valS ?_ | refine Stp.valSC ?_ | refine Stp.look ?_ | refine Stp.call ?_ | refine Stp.callC ?_ | refine Stp.eff ?_ | refine Stp.effC ?_ | refine Stp.pan ?_ | refine Stp.panC ?_ | refine DStp.valS ?_ | refine DStp.valSC ?_ | refine DStp.look ?_ | refine DStp.call ?_ | refine DStp.callC ?_ | ((with_reducible refine CallC.id ?_); first | refine CallC.two ?_) | ((with_reducible refine DrawReg.id ?_); refine drawQ' cx (by decide +kernel) rfl ?_) | (refine newN (fun r hr => ?_); simp only [keys, List.nil_append, List.cons_append, List.map_cons, List.map_nil, List.mem_cons, List.not_mem_nil, not_or, or_false, not_false_eq_true] at hr) | ((with_reducible refine BodyR.id ?_); first | refine BodyR.ret ?_ | refine BodyR.go ?_ | refine BodyR.pan ?_) | ((with_reducible refine ResG.id ?_); first | refine ResG.tmp rfl ?_ | refine ResG.cell rfl ?_ | refine ResG.nil ?_) | ((with_reducible refine LoadIs.id ?_); first | refine LoadIs.agg (by repeat first | exact HGet.hit | apply HGet.miss (by omega)) rfl rfl rfl ?_ | refine LoadIs.one (by repeat first | exact HGet.hit | apply HGet.miss (by omega)) rfl rfl rfl rfl ?_) | ((with_reducible refine Upd.id ?_); first | (refine Upd.lit rfl ?_; (conv => whnf)) | refine Upd.set (by omega) ?_ | refine Upd.set (by (simp only [List.length_map, List.length_set, List.length_replicate]; omega)) ?_) | ((with_reducible refine Grow2.id ?_); refine Grow2.own ?_) | refine newCap (fun cap hcap => ?_) | refine newB (fun b hb => ?_) | refine grow_split (fun _ => ?_) (fun _ => ?_) | fail
  refine sem_loop cx (ι := Nat) (fun i => i ≤ l.length) (fun i => [(0, .sure, LSt l), (1, .sure, LSt l), (5, .sure, ii i)]) (fun _ => []) (fun i => l.length - i) 0 (Nat.zero_le _) (by repeat' first | exact Sub.nil _ | refine Sub.auto ?_) (Subp.nil _) ?_
  intro i i1
  by_cases hi : i < l.length
  · have g1 := getD_st (l := l) (k := i) (n := i) rfl hi
    have S := hl _ (List.getElem_mem hi)
    generalize l[i] = s at *
    obtain ⟨p, q, x⟩ := s
    have S1 := sameLoc_spec ⟨p, q⟩ S.path
    have S2 := rSames_spec x S.st S.len
    change _ = encS' p q x at g1
    change Pur cx _ [encLoc' p q, encLoc' p q] _ at S1
    repeat' first | refine Ops.tag rfl ?_ | ((with_reducible first | refine OpsT.yes ?_ | refine OpsT.yes' ?_); (conv => arg 7; whnf)) | (with_reducible first | refine OpsT.andT ?_ | refine OpsT.andF ?_ | refine OpsT.no ?_ | refine OpsT.no' ?_) | (refine OpsT.go ?_; (conv => arg 7; whnf)) | (with_reducible first | refine Stp.orF ?_ | refine Stp.orT ?_ | refine Stp.andT ?_ | refine Stp.andF ?_ | refine Stp.notT ?_ | refine Stp.notF ?_ | refine Stp.andT2 ?_ | refine Stp.orF2 ?_) | ((with_reducible refine Stp.isSum ?_); refine Stp.sum ?_) | ((with_reducible refine Stp.isSumU ?_); refine Stp.sumU ?_) | ((with_reducible refine Stp.isSum3 ?_); refine Stp.sum3 ?_) | ((with_reducible refine Stp.isDec ?_); first | refine Stp.decT ?_ | refine Stp.decF ?_) | ((with_reducible refine Stp.isEq ?_); first | refine Stp.eqT ?_ | refine Stp.eqF ?_) | ((with_reducible refine Stp.isNe ?_); first | refine Stp.neT ?_ | refine Stp.neF ?_) | refine Stp.pure rfl ?_ | ((with_reducible refine PutK.isSet ?_); refine PutK.set (by repeat first | exact HsetIs.hit | apply HsetIs.miss (by omega)) ?_) | refine PutK.mk' rfl ?_ | refine Ops.nil ?_ | (refine DOps.cons rfl rfl ?_; (conv => arg 7; whnf)) | (with_reducible first | refine DStp.orF ?_ | refine DStp.orT ?_ | refine DStp.andT ?_ | refine DStp.andF ?_ | refine DStp.notT ?_ | refine DStp.notF ?_ | refine DStp.andT2 ?_ | refine DStp.orF2 ?_) | ((with_reducible refine DStp.isSum ?_); refine DStp.sum ?_) | ((with_reducible refine DStp.isSumU ?_); refine DStp.sumU ?_) | ((with_reducible refine DStp.isSum3 ?_); refine DStp.sum3 ?_) | ((with_reducible refine DStp.isDec ?_); first | refine DStp.decT ?_ | refine DStp.decF ?_) | ((with_reducible refine DStp.isEq ?_); first | refine DStp.eqT ?_ | refine DStp.eqF ?_) | ((with_reducible refine DStp.isNe ?_); first | refine DStp.neT ?_ | refine DStp.neF ?_) | refine DStp.pure rfl ?_ | refine PutD.mk' rfl ?_ | refine DOps.nil rfl ?_ | ((with_reducible refine Look.id ?_); refine Look.auto ?_ (by repeat first | exact HGet.hit | apply HGet.miss (by omega)); try (conv => arg 7; whnf)) | ((with_reducible refine Side.id ?_); first | refine Side.auto ?_) | ((with_reducible refine Br.id ?_); first | (with_reducible first | refine br_true rfl ?_ | refine br_false rfl ?_) | refine br_true (by with_reducible assumption) ?_ | refine br_false (by with_reducible assumption) ?_ | refine br_dec_t (by with_reducible assumption) ?_ | refine br_dec_f (by with_reducible assumption) ?_ | refine br_beq_t (by with_reducible assumption) ?_ | refine br_beq_f (by with_reducible assumption) ?_ | refine br_bne_t (by with_reducible assumption) ?_ | refine br_bne_f (by with_reducible assumption) ?_ | refine br_true rfl ?_ | refine br_false rfl ?_ | refine br_dec (fun _ => ?_) (fun _ => ?_) | refine br_beq (fun _ => ?_) (fun _ => ?_) | refine br_bne (fun _ => ?_) (fun _ => ?_) | refine br_split (fun _ => ?_) (fun _ => ?_)) | ((with_reducible refine SemWp.id ?_); first | refine sem_seq ?_ | refine sem_region rfl ?_ | refine sem_cond rfl ?_ | refine sem_block ?_ | refine sem_exit ?_ | refine sem_ret ?_ | refine sem_skip ?_ | refine sem_label ?_ | refine sem_draw ?_) | ((with_reducible refine qThen.id ?_); first | refine qThen.go ?_ | refine qThen.ret ?_ | refine qThen.exit ?_ | refine qThen.pan ?_) | ((with_reducible refine hinBlock.id ?_); first | refine hinBlock.go ?_ | refine hinBlock.ret ?_ | refine hinBlock.pan ?_ | refine hinBlock.here rfl ?_ | refine hinBlock.on rfl ?_) | ((with_reducible refine hround.id ?_); first | refine hround.go ?_ | refine hround.ret ?_ | refine hround.exit ?_ | refine hround.pan ?_) | ((with_reducible refine bodyQ.id ?_); first | refine bodyQ.ret rfl ?_ | refine bodyQ.ret2 rfl ?_ | refine bodyQ.ret0 rfl ?_ | refine bodyQ.go ?_ | refine bodyQ.pan ?_) | refine Stp.valS ?_ | refine Stp.valSC ?_ | refine Stp.look ?_ | refine Stp.call ?_ | refine Stp.callC ?_ | refine Stp.eff ?_ | refine Stp.effC ?_ | refine Stp.pan ?_ | refine Stp.panC ?_ | refine DStp.valS ?_ | refine DStp.valSC ?_ | refine DStp.look ?_ | refine DStp.call ?_ | refine DStp.callC ?_ | ((with_reducible refine CallWp.id ?_); first | refine Pur.call (S1) ?_ | refine Pur.call (S2) ?_) | ((with_reducible refine QAsk.id ?_); first | (refine Pur.ask (S1) ?_ ?_; focus (intro h; first | exact True.intro | exact h | exact rfl | exact ⟨h, rfl⟩ | exact ⟨h, h, rfl⟩ | exact ⟨h, h, h, rfl⟩ | (simp_all; done) | (simp_all; omega); done)) | (refine Pur.ask (S2) ?_ ?_; focus (intro h; first | exact True.intro | exact h | exact rfl | exact ⟨h, rfl⟩ | exact ⟨h, h, rfl⟩ | exact ⟨h, h, h, rfl⟩ | (simp_all; done) | (simp_all; omega); done))) | ((with_reducible refine CallC.id ?_); first | (refine Pur.askC (S1) ?_ ?_; focus (intro h; first | exact True.intro | exact h | exact rfl | exact ⟨h, rfl⟩ | exact ⟨h, h, rfl⟩ | exact ⟨h, h, h, rfl⟩ | (simp_all; done) | (simp_all; omega); done)) | (refine Pur.askC (S2) ?_ ?_; focus (intro h; first | exact True.intro | exact h | exact rfl | exact ⟨h, rfl⟩ | exact ⟨h, h, rfl⟩ | exact ⟨h, h, h, rfl⟩ | (simp_all; done) | (simp_all; omega); done)) | refine CallC.two ?_) | ((with_reducible refine DrawReg.id ?_); refine drawQ' cx (by decide +kernel) rfl ?_) | (refine newN (fun r hr => ?_); simp only [keys, List.nil_append, List.cons_append, List.map_cons, List.map_nil, List.mem_cons, List.not_mem_nil, not_or, or_false, not_false_eq_true] at hr) | ((with_reducible refine BodyR.id ?_); first | refine BodyR.ret ?_ | refine BodyR.go ?_ | refine BodyR.pan ?_) | ((with_reducible refine ResG.id ?_); first | refine ResG.tmp rfl ?_ | refine ResG.cell rfl ?_ | refine ResG.nil ?_) | ((with_reducible refine LoadIs.id ?_); first | refine LoadIs.agg (by repeat first | exact HGet.hit | apply HGet.miss (by omega)) rfl rfl rfl ?_ | refine LoadIs.one (by repeat first | exact HGet.hit | apply HGet.miss (by omega)) rfl rfl rfl rfl ?_) | ((with_reducible refine Upd.id ?_); first | (refine Upd.lit rfl ?_; (conv => whnf)) | refine Upd.set (by omega) ?_ | refine Upd.set (by (simp only [List.length_map, List.length_set, List.length_replicate]; omega)) ?_) | ((with_reducible refine Grow2.id ?_); refine Grow2.own ?_) | refine newCap (fun cap hcap => ?_) | refine newB (fun b hb => ?_) | refine grow_split (fun _ => ?_) (fun _ => ?_) | rw [g1] | fail
    exact Fin.mk ⟨i + 1, by omega, by omega, by repeat' first | exact Sub.nil _ | refine Sub.auto ?_, Subp.nil _⟩
  · have : i = l.length := by omega
    subst this
    repeat' first | refine Ops.tag rfl ?_ | ((with_reducible first | refine OpsT.yes ?_ | refine OpsT.yes' ?_); (conv => arg 7; whnf)) | (with_reducible first | refine OpsT.andT ?_ | refine OpsT.andF ?_ | refine OpsT.no ?_ | refine OpsT.no' ?_) | (refine OpsT.go ?_; (conv => arg 7; whnf)) | (with_reducible first | refine Stp.orF ?_ | refine Stp.orT ?_ | refine Stp.andT ?_ | refine Stp.andF ?_ | refine Stp.notT ?_ | refine Stp.notF ?_ | refine Stp.andT2 ?_ | refine Stp.orF2 ?_) | ((with_reducible refine Stp.isSum ?_); refine Stp.sum ?_) | ((with_reducible refine Stp.isSumU ?_); refine Stp.sumU ?_) | ((with_reducible refine Stp.isSum3 ?_); refine Stp.sum3 ?_) | ((with_reducible refine Stp.isDec ?_); first | refine Stp.decT ?_ | refine Stp.decF ?_) | ((with_reducible refine Stp.isEq ?_); first | refine Stp.eqT ?_ | refine Stp.eqF ?_) | ((with_reducible refine Stp.isNe ?_); first | refine Stp.neT ?_ | refine Stp.neF ?_) | refine Stp.pure rfl ?_ | ((with_reducible refine PutK.isSet ?_); refine PutK.set (by repeat first | exact HsetIs.hit | apply HsetIs.miss (by omega)) ?_) | refine PutK.mk' rfl ?_ | refine Ops.nil ?_ | (refine DOps.cons rfl rfl ?_; (conv => arg 7; whnf)) | (with_reducible first | refine DStp.orF ?_ | refine DStp.orT ?_ | refine DStp.andT ?_ | refine DStp.andF ?_ | refine DStp.notT ?_ | refine DStp.notF ?_ | refine DStp.andT2 ?_ | refine DStp.orF2 ?_) | ((with_reducible refine DStp.isSum ?_); refine DStp.sum ?_) | ((with_reducible refine DStp.isSumU ?_); refine DStp.sumU ?_) | ((with_reducible refine DStp.isSum3 ?_); refine DStp.sum3 ?_) | ((with_reducible refine DStp.isDec ?_); first | refine DStp.decT ?_ | refine DStp.decF ?_) | ((with_reducible refine DStp.isEq ?_); first | refine DStp.eqT ?_ | refine DStp.eqF ?_) | ((with_reducible refine DStp.isNe ?_); first | refine DStp.neT ?_ | refine DStp.neF ?_) | refine DStp.pure rfl ?_ | refine PutD.mk' rfl ?_ | refine DOps.nil rfl ?_ | ((with_reducible refine Look.id ?_); refine Look.auto ?_ (by repeat first | exact HGet.hit | apply HGet.miss (by omega)); try (conv => arg 7; whnf)) | ((with_reducible refine Side.id ?_); first | refine Side.auto ?_) | ((with_reducible refine Br.id ?_); first | (with_reducible first | refine br_true rfl ?_ | refine br_false rfl ?_) | refine br_true (by with_reducible assumption) ?_ | refine br_false (by with_reducible assumption) ?_ | refine br_dec_t (by with_reducible assumption) ?_ | refine br_dec_f (by with_reducible assumption) ?_ | refine br_beq_t (by with_reducible assumption) ?_ | refine br_beq_f (by with_reducible assumption) ?_ | refine br_bne_t (by with_reducible assumption) ?_ | refine br_bne_f (by with_reducible assumption) ?_ | refine br_true rfl ?_ | refine br_false rfl ?_ | refine br_dec (fun _ => ?_) (fun _ => ?_) | refine br_beq (fun _ => ?_) (fun _ => ?_) | refine br_bne (fun _ => ?_) (fun _ => ?_) | refine br_split (fun _ => ?_) (fun _ => ?_)) | ((with_reducible refine SemWp.id ?_); first | refine sem_seq ?_ | refine sem_region rfl ?_ | refine sem_cond rfl ?_ | refine sem_block ?_ | refine sem_exit ?_ | refine sem_ret ?_ | refine sem_skip ?_ | refine sem_label ?_ | refine sem_draw ?_) | ((with_reducible refine qThen.id ?_); first | refine qThen.go ?_ | refine qThen.ret ?_ | refine qThen.exit ?_ | refine qThen.pan ?_) | ((with_reducible refine hinBlock.id ?_); first | refine hinBlock.go ?_ | refine hinBlock.ret ?_ | refine hinBlock.pan ?_ | refine hinBlock.here rfl ?_ | refine hinBlock.on rfl ?_) | ((with_reducible refine hround.id ?_); first | refine hround.go ?_ | refine hround.ret ?_ | refine hround.exit ?_ | refine hround.pan ?_) | ((with_reducible refine bodyQ.id ?_); first | refine bodyQ.ret rfl ?_ | refine bodyQ.ret2 rfl ?_ | refine bodyQ.ret0 rfl ?_ | refine bodyQ.go ?_ | refine bodyQ.pan ?_) | refine Stp.valS ?_ | refine Stp.valSC ?_ | refine Stp.look ?_ | refine Stp.call ?_ | refine Stp.callC ?_ | refine Stp.eff ?_ | refine Stp.effC ?_ | refine Stp.pan ?_ | refine Stp.panC ?_ | refine DStp.valS ?_ | refine DStp.valSC ?_ | refine DStp.look ?_ | refine DStp.call ?_ | refine DStp.callC ?_ | ((with_reducible refine CallC.id ?_); first | refine CallC.two ?_) | ((with_reducible refine DrawReg.id ?_); refine drawQ' cx (by decide +kernel) rfl ?_) | (refine newN (fun r hr => ?_); simp only [keys, List.nil_append, List.cons_append, List.map_cons, List.map_nil, List.mem_cons, List.not_mem_nil, not_or, or_false, not_false_eq_true] at hr) | ((with_reducible refine BodyR.id ?_); first | refine BodyR.ret ?_ | refine BodyR.go ?_ | refine BodyR.pan ?_) | ((with_reducible refine ResG.id ?_); first | refine ResG.tmp rfl ?_ | refine ResG.cell rfl ?_ | refine ResG.nil ?_) | ((with_reducible refine LoadIs.id ?_); first | refine LoadIs.agg (by repeat first | exact HGet.hit | apply HGet.miss (by omega)) rfl rfl rfl ?_ | refine LoadIs.one (by repeat first | exact HGet.hit | apply HGet.miss (by omega)) rfl rfl rfl rfl ?_) | ((with_reducible refine Upd.id ?_); first | (refine Upd.lit rfl ?_; (conv => whnf)) | refine Upd.set (by omega) ?_ | refine Upd.set (by (simp only [List.length_map, List.length_set, List.length_replicate]; omega)) ?_) | ((with_reducible refine Grow2.id ?_); refine Grow2.own ?_) | refine newCap (fun cap hcap => ?_) | refine newB (fun b hb => ?_) | refine grow_split (fun _ => ?_) (fun _ => ?_) | fail
    exact Fin.mk rfl
end Go.Proofs.Hk

set_option linter.unusedSimpArgs false
set_option linter.unusedVariables false
namespace Go.Proofs.Hk
open Go Go.Proofs

structure LimLow (l : GLow) : Prop where
  es : ∀ e ∈ l.es, (∀ a ∈ e.g, LimA a) ∧ ∀ a ∈ e.s, LimA a
  vs : ∀ v ∈ l.vs, ∀ a ∈ v.g, LimA a
theorem smLow_of {l : GLow} (h : bigLow l = false) (hl : LimLow l) : SmLow l := by
  simp only [bigLow, Bool.or_eq_false_iff, List.any_eq_false] at h
  refine ⟨fun e he => smE_of (by simpa using h.1.2 e he) (hl.es e he).1 (hl.es e he).2, fun v hv => ?_⟩
  have hb : bigV v = false := by simpa using h.2 v hv
  simp only [bigV, Bool.or_eq_false_iff, decide_eq_false_iff_not, bigAs, List.any_eq_false] at hb
  exact ⟨fun a ha => smA_of (by simpa using hb.2 a ha) (hl.vs v hv a ha).x (hl.vs v hv a ha).w (hl.vs v hv a ha).k, by omega⟩
theorem smN_up {n m : Nat} {g : GI} (h : SmN n g) (hm : n ≤ m) : SmN m g := ⟨h.lim, Nat.le_trans h.len hm⟩
theorem runP_sm {es : List GE} (hes : ∀ e ∈ es, SmE e) : ∀ (c : List GC) (i : Nat) (a : Int) (x : List GI), 40 + 41 * (i + c.length) ≤ 10000 → (∀ k ∈ c, ∀ g ∈ k.w, Sm g) → (∀ g ∈ x, SmN (40 + 41 * i) g) → (runP es c a x).length ≤ c.length ∧ ∀ p ∈ runP es c a x, (∀ g ∈ p.2, SmN 10000 g) ∧ p.2.length ≤ 1000
  | [], _, _, x, _, _, _ => ⟨by simp [runP], fun p h => by simp [runP] at h⟩
  | c :: cs, i, a, x, hi, hc, hx => by
    unfold runP
    rw [List.length_cons] at hi
    split
    · exact ⟨by simp, fun p h => by simp at h⟩
    · rename_i t y e
      have hy : (∀ g ∈ y, SmN (40 + 41 * (i + 1)) g) ∧ y.length ≤ 1000 := by
        unfold nxt at e
        split at e
        · split at e
          · rename_i h1 h2
            cases e
            have he := hes _ (List.getElem_mem (show c.e.toNat < es.length by omega))
            have k := go_y (by omega) he hx (hc c (by simp)) h2.2
            exact ⟨k.2.1, by rw [List.length_map]; exact he.ls⟩
          · cases e
        · cases e
      have ih := runP_sm hes cs (i + 1) t y (by omega) (fun k hk => hc k (by simp [hk])) hy.1
      refine ⟨by simp only [List.length_cons]; omega, fun p h => ?_⟩
      rcases List.mem_cons.1 h with rfl | h
      · exact ⟨fun g hg => smN_up (hy.1 g hg) (by omega), hy.2⟩
      · exact ih.2 p h
theorem pathV_form {l : GLow} {b : List GI} {c : List GC} (h : SmLow l) (hp : ∀ q ∈ l.locs, q.path.length ≤ 17592186044416) (sb : ∀ g ∈ b, Sm g) (nb : b.length ≤ 60) (nc : c.length ≤ 100) (sc : ∀ k ∈ c, ∀ g ∈ k.w, Sm g) :
    ∃ st n f, pathV l b c = .tup [LSt st, ii n, ii f] ∧ (∀ s ∈ st, LenS s) ∧ st.length ≤ 9223372036854775807 := by
  unfold pathV
  split
  · refine ⟨_, _, _, rfl, fun s hs => ?_, ?_⟩
    · obtain ⟨p, hm, rfl⟩ := List.mem_map.1 hs
      have hx : (∀ g ∈ p.2, SmN 10000 g) ∧ p.2.length ≤ 1000 := by
        unfold fullP at hm
        rcases List.mem_cons.1 hm with rfl | hm
        · refine ⟨fun g hg => ?_, by simp only [List.length_map]; omega⟩
          obtain ⟨y, hy, rfl⟩ := List.mem_map.1 hg
          exact smN_up (own_sm (sb y hy)) (by omega)
        · exact (runP_sm h.es c 0 0 (b.map own1) (by omega) sc (fun g hg => by
            obtain ⟨y, hy, rfl⟩ := List.mem_map.1 hg
            exact own_sm (sb y hy))).2 p hm
      refine ⟨?_, fun g hg => by have := (hx.1 g hg).len; omega, by show p.2.length ≤ _; omega⟩
      show (l.locs.getD p.1.toNat locD).path.length ≤ _
      rw [List.getD_eq_getElem?_getD]
      cases e : l.locs[p.1.toNat]? with
      | none => simp [locD]
      | some q => exact Nat.le_trans (hp q (List.mem_of_getElem? e)) (by decide)
    · have := (runP_sm h.es c 0 0 (b.map own1) (by omega) sc (fun g hg => by
            obtain ⟨y, hy, rfl⟩ := List.mem_map.1 hg
            exact own_sm (sb y hy))).1
      simp only [List.length_map, fullP, List.length_cons]
      omega
  · exact ⟨[], _, _, rfl, fun s hs => by simp at hs, by simp⟩
set_option maxHeartbeats 4000000 in
theorem WalkPaths_spec (l : GLow) (b : List GI) (c : List GC) (nl : LenLow l) (ll : LimLow l) (hp : ∀ q ∈ l.locs, q.path.length ≤ 17592186044416) (lb : ∀ g ∈ b, Lim g.l) (nb : b.length ≤ 9223372036854775807) (nw : ∀ k ∈ c, k.w.length ≤ 9223372036854775807) (lw : ∀ k ∈ c, ∀ g ∈ k.w, Lim g.l) (nc : c.length ≤ 9223372036854775807) :
    Pur cx 8 [encLow l, LIs b, LCs c] (bb true) := by
  have AW := awake16_spec
  have LG := GreatLow_spec l nl
  have LC := great16_spec c b nw nc nb
  have sm := fun h => smLow_of (l := l) h ll
  have P1 := fun h sb nb nc sc => Path_spec l b c h hp sb nb nc sc
  have P2 := fun h sb nb nc sc => rPath_spec l b c h sb nb nc sc
  have PF := fun h sb nb nc sc => pathV_form (l := l) (b := b) (c := c) h hp sb nb nc sc
  have CH := choices_spec c
  obtain ⟨locs, slots, es, vs⟩ := l
  change Pur cx _ [encLow' locs slots es vs] _ at LG
  change Pur cx _ [encLow' locs slots es vs, LIs b, LCs c] _
  refine Pur.of (sem_calls' cx (fn := Try.f8) rfl rfl rfl rfl ?_)
  cases h1 : bigLow ⟨locs, slots, es, vs⟩ with
  | true =>
    rw [h1] at LG
    clear h1 sm P1 P2 PF
    repeat' first | refine Ops.tag rfl ?_ | (with_reducible first | refine OpsT.no' ?_) | (refine OpsT.go ?_; (conv => arg 7; whnf)) | (with_reducible first | refine Stp.orT ?_) | refine Stp.pure rfl ?_ | refine PutK.mk' rfl ?_ | refine Ops.nil ?_ | ((with_reducible refine Look.id ?_); refine Look.auto ?_ (by repeat first | exact HGet.hit); try (conv => arg 7; whnf)) | ((with_reducible refine Side.id ?_); first | refine Side.auto ?_) | ((with_reducible refine Br.id ?_); first | (with_reducible first | refine br_true rfl ?_)) | ((with_reducible refine SemWp.id ?_); first | refine sem_seq ?_ | refine sem_region rfl ?_ | refine sem_cond rfl ?_ | refine sem_ret ?_) | ((with_reducible refine qThen.id ?_); first | refine qThen.go ?_ | refine qThen.ret ?_) | refine Stp.valS ?_ | refine Stp.look ?_ | refine Stp.call ?_ | refine Stp.eff ?_ | ((with_reducible refine CallWp.id ?_); first | refine Pur.call (LG) ?_ | refine Pur.call (AW) ?_) | (refine newN (fun r hr => ?_); simp only [keys, List.nil_append, List.cons_append, List.map_cons, List.map_nil, List.mem_cons, List.not_mem_nil, not_or, or_false, not_false_eq_true] at hr) | ((with_reducible refine BodyR.id ?_); first | refine BodyR.ret ?_) | ((with_reducible refine ResG.id ?_); first | refine ResG.tmp rfl ?_ | refine ResG.nil ?_)
    exact Fin.mk rfl
  | false =>
    rw [h1] at LG
    cases h2 : bigCs c b with
    | true =>
      rw [h2] at LC
      clear h1 h2 sm P1 P2 PF
      repeat' first | refine Ops.tag rfl ?_ | ((with_reducible first | refine OpsT.yes' ?_); (conv => arg 7; whnf)) | (refine OpsT.go ?_; (conv => arg 7; whnf)) | (with_reducible first | refine Stp.orF ?_) | refine Stp.pure rfl ?_ | refine PutK.mk' rfl ?_ | refine Ops.nil ?_ | ((with_reducible refine Look.id ?_); refine Look.auto ?_ (by repeat first | exact HGet.hit); try (conv => arg 7; whnf)) | ((with_reducible refine Side.id ?_); first | refine Side.auto ?_) | ((with_reducible refine Br.id ?_); first | (with_reducible first | refine br_true rfl ?_)) | ((with_reducible refine SemWp.id ?_); first | refine sem_seq ?_ | refine sem_region rfl ?_ | refine sem_cond rfl ?_ | refine sem_ret ?_) | ((with_reducible refine qThen.id ?_); first | refine qThen.go ?_ | refine qThen.ret ?_) | refine Stp.look ?_ | refine Stp.call ?_ | refine Stp.eff ?_ | ((with_reducible refine CallWp.id ?_); first | refine Pur.call (LG) ?_ | refine Pur.call (LC) ?_ | refine Pur.call (AW) ?_) | (refine newN (fun r hr => ?_); simp only [keys, List.nil_append, List.cons_append, List.map_cons, List.map_nil, List.mem_cons, List.not_mem_nil, not_or, or_false, not_false_eq_true] at hr) | ((with_reducible refine BodyR.id ?_); first | refine BodyR.ret ?_) | ((with_reducible refine ResG.id ?_); first | refine ResG.tmp rfl ?_ | refine ResG.nil ?_)
      exact Fin.mk rfl
    | false =>
      rw [h2] at LC
      simp only [bigCs, Bool.or_eq_false_iff, decide_eq_false_iff_not, List.any_eq_false] at h2
      obtain ⟨⟨⟨q1, q2⟩, q3⟩, q4⟩ := h2
      have sb := smL_of q3 lb
      have sc : ∀ k ∈ c, k.w.length ≤ 60 ∧ ∀ g ∈ k.w, Sm g := fun k hk => by
        have : bigC k = false := by simpa using q4 k hk
        simp only [bigC, Bool.or_eq_false_iff, decide_eq_false_iff_not] at this
        exact ⟨by omega, smL_of this.2 (lw k hk)⟩
      have P1 := P1 (sm h1) sb (by omega) (by omega) sc
      have P2 := P2 (sm h1) sb (by omega) (by omega) sc
      obtain ⟨st, n, f, e, hl, hn⟩ := PF (sm h1) sb (by omega) (by omega) (fun k hk => (sc k hk).2)
      rw [e] at P1 P2
      have CH := CH (by omega)
      have S := Steps_spec st hl hn
      have NM := Num_specW f
      change Pur cx _ [encLow' locs slots es vs, _, _] _ at P1
      change Pur cx _ [encLow' locs slots es vs, _, _] _ at P2
      clear h1 q1 q2 q3 q4 sb sc sm PF e hl hn
      repeat' first | refine Ops.tag rfl ?_ | ((with_reducible first | refine OpsT.yes ?_ | refine OpsT.yes' ?_); (conv => arg 7; whnf)) | (refine OpsT.go ?_; (conv => arg 7; whnf)) | (with_reducible first | refine Stp.orF ?_ | refine Stp.andT ?_) | ((with_reducible refine Stp.isEq ?_); first | refine Stp.eqT ?_) | refine Stp.pure rfl ?_ | refine PutK.mk' rfl ?_ | refine Ops.nil ?_ | (refine DOps.cons rfl rfl ?_; (conv => arg 7; whnf)) | refine DStp.pure rfl ?_ | refine PutD.mk' rfl ?_ | refine DOps.nil rfl ?_ | ((with_reducible refine Look.id ?_); refine Look.auto ?_ (by repeat first | exact HGet.hit); try (conv => arg 7; whnf)) | ((with_reducible refine Side.id ?_); first | refine Side.auto ?_) | ((with_reducible refine Br.id ?_); first | (with_reducible first | refine br_false rfl ?_)) | ((with_reducible refine SemWp.id ?_); first | refine sem_seq ?_ | refine sem_region rfl ?_ | refine sem_cond rfl ?_ | refine sem_ret ?_ | refine sem_skip ?_ | refine sem_draw ?_) | ((with_reducible refine qThen.id ?_); first | refine qThen.go ?_) | refine Stp.look ?_ | refine Stp.call ?_ | refine Stp.eff ?_ | refine DStp.look ?_ | refine DStp.call ?_ | ((with_reducible refine CallWp.id ?_); first | refine Pur.call (LG) ?_ | refine Pur.call (LC) ?_ | refine Pur.call (AW) ?_ | refine Pur.call (P1) ?_ | refine Pur.call (S) ?_ | refine Pur.call (NM) ?_) | ((with_reducible refine QAsk.id ?_); first | (refine Pur.ask (P2) ?_ ?_; focus (intro h; first | exact rfl)) | (refine Pur.ask (CH) ?_ ?_; focus (intro h; first | exact rfl))) | ((with_reducible refine DrawReg.id ?_); refine drawQ' cx (by decide +kernel) rfl ?_) | (refine newN (fun r hr => ?_); simp only [keys, List.nil_append, List.cons_append, List.map_cons, List.map_nil, List.mem_cons, List.not_mem_nil, not_or, or_false, not_false_eq_true] at hr) | ((with_reducible refine BodyR.id ?_); first | refine BodyR.ret ?_) | ((with_reducible refine ResG.id ?_); first | refine ResG.tmp rfl ?_ | refine ResG.nil ?_)
      exact Fin.mk rfl
end Go.Proofs.Hk

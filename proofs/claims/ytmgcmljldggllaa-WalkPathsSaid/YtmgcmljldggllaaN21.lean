import Derived.Test.YtmgcmljldggllaaN20
set_option linter.unusedSimpArgs false
set_option linter.unusedVariables false
namespace Go.Proofs.Hk
open Go Go.Proofs

set_option maxHeartbeats 1000000 in
theorem rmay_spec (l : List GI) (hl : ∀ g ∈ l, g.Ok) (hn : l.length ≤ 9223372036854775807) : Pur cx 82 [LIs l] (bb (!l.any noM)) := by
  have m : (l.map encI).length = l.length := by simp
  refine Pur.of (sem_calls' cx (fn := Try.f82) rfl rfl rfl rfl ?_)
  repeat' first | refine Ops.tag rfl ?_ | (refine OpsT.go ?_; (conv => arg 7; whnf)) | refine Stp.pure rfl ?_ | refine Ops.nil ?_ | ((with_reducible refine SemWp.id ?_); first | refine sem_seq ?_ | refine sem_region rfl ?_ | refine sem_block ?_) | ((with_reducible refine qThen.id ?_); first | refine qThen.go ?_)
  refine sem_loop cx (ι := Nat) (fun i => i ≤ l.length ∧ (l.take i).any noM = false) (fun i => [(0, .sure, LIs l), (3, .sure, ii i)]) (fun _ => []) (fun i => l.length - i) 0 ⟨Nat.zero_le _, rfl⟩ (by repeat' first | exact Sub.nil _ | refine Sub.auto ?_) (Subp.nil _) ?_
  rintro i ⟨i1, i2⟩
  by_cases hil : i < l.length
  · have g1 : (l.map encI).getD (i : Int).toNat default = encI (l.getD i gi0) := getD_int (n := i) rfl hil
    have t := any_take (p := noM) hil
    have y := any_yes (p := noM) hil
    rw [getD_eq hil] at g1
    have M := rMay_spec l[i] (hl _ (List.getElem_mem hil))
    generalize l[i] = g at *
    cases hb : g.may with
    | false =>
      rw [hb] at M
      have e := y (by unfold noM; rw [hb]; rfl)
      clear y t hb
      repeat' first | refine Ops.tag rfl ?_ | (refine OpsT.go ?_; (conv => arg 7; whnf)) | (with_reducible first | refine Stp.notF ?_) | ((with_reducible refine Stp.isDec ?_); first | refine Stp.decT ?_) | refine Stp.pure rfl ?_ | refine PutK.mk' rfl ?_ | refine Ops.nil ?_ | ((with_reducible refine Side.id ?_); first | refine Side.auto ?_) | ((with_reducible refine Br.id ?_); first | (with_reducible first | refine br_true rfl ?_)) | ((with_reducible refine SemWp.id ?_); first | refine sem_seq ?_ | refine sem_region rfl ?_ | refine sem_cond rfl ?_ | refine sem_block ?_ | refine sem_ret ?_ | refine sem_skip ?_) | ((with_reducible refine qThen.id ?_); first | refine qThen.go ?_ | refine qThen.ret ?_) | ((with_reducible refine hinBlock.id ?_); first | refine hinBlock.ret ?_) | ((with_reducible refine hround.id ?_); first | refine hround.ret ?_) | refine Stp.valS ?_ | refine Stp.call ?_ | ((with_reducible refine CallWp.id ?_); first | refine Pur.call (M) ?_) | ((with_reducible refine BodyR.id ?_); first | refine BodyR.ret ?_) | ((with_reducible refine ResG.id ?_); first | refine ResG.tmp rfl ?_ | refine ResG.nil ?_) | rw [g1]
      exact Fin.mk (by rw [e]; rfl)
    | true =>
      rw [hb] at M
      have tn : (l.take (i + 1)).any noM = false := by rw [t, i2]; unfold noM; rw [hb]; rfl
      clear y t hb
      repeat' first | refine Ops.tag rfl ?_ | (refine OpsT.go ?_; (conv => arg 7; whnf)) | (with_reducible first | refine Stp.notT ?_) | ((with_reducible refine Stp.isSum ?_); refine Stp.sum ?_) | ((with_reducible refine Stp.isDec ?_); first | refine Stp.decT ?_) | refine Stp.pure rfl ?_ | refine PutK.mk' rfl ?_ | refine Ops.nil ?_ | ((with_reducible refine Side.id ?_); first | refine Side.auto ?_) | ((with_reducible refine Br.id ?_); first | (with_reducible first | refine br_true rfl ?_ | refine br_false rfl ?_)) | ((with_reducible refine SemWp.id ?_); first | refine sem_seq ?_ | refine sem_region rfl ?_ | refine sem_cond rfl ?_ | refine sem_block ?_ | refine sem_skip ?_) | ((with_reducible refine qThen.id ?_); first | refine qThen.go ?_) | ((with_reducible refine hinBlock.id ?_); first | refine hinBlock.go ?_) | ((with_reducible refine hround.id ?_); first | refine hround.go ?_) | refine Stp.valS ?_ | refine Stp.call ?_ | ((with_reducible refine CallWp.id ?_); first | refine Pur.call (M) ?_) | rw [g1]
      exact Fin.mk ⟨i + 1, ⟨by omega, tn⟩, by omega, by repeat' first | exact Sub.nil _ | refine Sub.auto ?_, Subp.nil _⟩
  · have : i = l.length := by omega
    subst this
    rw [List.take_length] at i2
    have e := i2
    clear i2
    repeat' first | refine Ops.tag rfl ?_ | (refine OpsT.go ?_; (conv => arg 7; whnf)) | ((with_reducible refine Stp.isDec ?_); first | refine Stp.decF ?_) | refine Stp.pure rfl ?_ | refine Ops.nil ?_ | ((with_reducible refine Br.id ?_); first | (with_reducible first | refine br_false rfl ?_)) | ((with_reducible refine SemWp.id ?_); first | refine sem_seq ?_ | refine sem_region rfl ?_ | refine sem_cond rfl ?_ | refine sem_exit ?_ | refine sem_ret ?_) | ((with_reducible refine qThen.id ?_); first | refine qThen.go ?_) | ((with_reducible refine BodyR.id ?_); first | refine BodyR.ret ?_) | ((with_reducible refine ResG.id ?_); first | refine ResG.tmp rfl ?_ | refine ResG.nil ?_)
    exact Fin.mk (by rw [e]; rfl)
set_option maxHeartbeats 4000000 in
theorem raffs_spec (l : List GA) (n m : Int) (hl : ∀ a ∈ l, SmA a) (hn : l.length ≤ 9223372036854775807) : Pur cx 69 [LAs l, ii n, ii m] (bb (affsB l n m)) := by
  have len : (l.map encA).length = l.length := by simp
  refine Pur.of (sem_calls' cx (fn := Try.f69) rfl rfl rfl rfl ?_)
  repeat' first | refine Ops.tag rfl ?_ | (refine OpsT.go ?_; (conv => arg 7; whnf)) | refine Stp.pure rfl ?_ | refine Ops.nil ?_ | ((with_reducible refine SemWp.id ?_); first | refine sem_seq ?_ | refine sem_region rfl ?_ | refine sem_block ?_) | ((with_reducible refine qThen.id ?_); first | refine qThen.go ?_)
  refine sem_loop cx (ι := Nat) (fun i => i ≤ l.length ∧ (l.take i).any (badA n m) = false) (fun i => [(0, .sure, LAs l), (1, .sure, ii n), (2, .sure, ii m), (7, .sure, ii i)]) (fun _ => []) (fun i => l.length - i) 0 ⟨Nat.zero_le _, rfl⟩ (by repeat' first | exact Sub.nil _ | refine Sub.auto ?_) (Subp.nil _) ?_
  rintro i ⟨i1, i2⟩
  by_cases hil : i < l.length
  · have g1 : (l.map encA).getD (i : Int).toNat default = encA (l.getD i ga0) := getD_aff (n := i) rfl hil
    have t := any_take (p := badA n m) hil
    have y := any_yes (p := badA n m) hil
    rw [getD_eq hil] at g1
    have sa := hl _ (List.getElem_mem hil)
    generalize l[i] = a at *
    have X := rmay_spec a.x (fun g hg => (sa.x g hg).ok) (by have := sa.lx; omega)
    have W := rmay_spec a.w (fun g hg => (sa.w g hg).ok) (by have := sa.lw; omega)
    have K := rMay_spec a.k sa.k.ok
    clear sa
    obtain ⟨x, w, ⟨kn, kl⟩⟩ := a
    have K : Pur cx 76 [encP kn kl] (bb (GI.mk kn kl).may) := K
    change _ = encA' x w kn kl at g1
    have X : Pur cx 82 [LIs x] (bb (!x.any noM)) := X
    have W : Pur cx 82 [LIs w] (bb (!w.any noM)) := W
    have eb : badA n m ⟨x, w, ⟨kn, kl⟩⟩ = (!(decide ((x.length : Int) = n) && !x.any noM) || !(decide ((w.length : Int) = m) && !w.any noM) || !(GI.mk kn kl).may) := rfl
    have yes : badA n m ⟨x, w, ⟨kn, kl⟩⟩ = true → Fin (HEnd.ret (tupOf [HV.v (.bool false)]) = HEnd.ret (bb (affsB l n m))) := fun h => Fin.mk (by unfold affsB; rw [y h]; rfl)
    have no : badA n m ⟨x, w, ⟨kn, kl⟩⟩ = false → (l.take (i + 1)).any (badA n m) = false := fun h => by rw [t, i2, h]; rfl
    rw [eb] at yes no
    clear y t eb
    have lx : (x.map encI).length = x.length := by simp
    have lw : (w.map encI).length = w.length := by simp
    generalize x.any noM = b1 at *
    generalize w.any noM = b2 at *
    generalize (GI.mk kn kl).may = b3 at *
    by_cases h1 : (x.length : Int) = n
    · by_cases h2 : (w.length : Int) = m
      · rw [decide_eq_true h1, decide_eq_true h2] at yes no
        cases b1 <;> cases b2 <;> cases b3
        case false.false.true =>
          have no := no rfl
          clear yes
          repeat' first | refine Ops.tag rfl ?_ | ((with_reducible first | refine OpsT.yes' ?_); (conv => arg 7; whnf)) | (refine OpsT.go ?_; (conv => arg 7; whnf)) | (with_reducible first | refine Stp.orF ?_ | refine Stp.notT ?_) | ((with_reducible refine Stp.isSum ?_); refine Stp.sum ?_) | ((with_reducible refine Stp.isDec ?_); first | refine Stp.decT ?_) | ((with_reducible refine Stp.isNe ?_); first | refine Stp.neF ?_) | refine Stp.pure rfl ?_ | ((with_reducible refine PutK.isSet ?_); refine PutK.set (by repeat first | exact HsetIs.hit) ?_) | refine PutK.mk' rfl ?_ | refine Ops.nil ?_ | ((with_reducible refine Look.id ?_); refine Look.auto ?_ (by repeat first | exact HGet.hit); try (conv => arg 7; whnf)) | ((with_reducible refine Side.id ?_); first | refine Side.auto ?_) | ((with_reducible refine Br.id ?_); first | (with_reducible first | refine br_true rfl ?_ | refine br_false rfl ?_)) | ((with_reducible refine SemWp.id ?_); first | refine sem_seq ?_ | refine sem_region rfl ?_ | refine sem_cond rfl ?_ | refine sem_block ?_ | refine sem_skip ?_) | ((with_reducible refine qThen.id ?_); first | refine qThen.go ?_) | ((with_reducible refine hinBlock.id ?_); first | refine hinBlock.go ?_) | ((with_reducible refine hround.id ?_); first | refine hround.go ?_) | refine Stp.valS ?_ | refine Stp.valSC ?_ | refine Stp.look ?_ | refine Stp.call ?_ | refine Stp.callC ?_ | refine Stp.eff ?_ | ((with_reducible refine CallWp.id ?_); first | refine Pur.call (X) ?_ | refine Pur.call (K) ?_) | ((with_reducible refine CallC.id ?_); first | (refine Pur.askC (W) ?_ ?_; focus (intro h; first | exact ⟨h, rfl⟩))) | (refine newN (fun r hr => ?_); simp only [keys, List.nil_append, List.cons_append, List.map_cons, List.map_nil, List.mem_cons, List.not_mem_nil, not_or, or_false, not_false_eq_true] at hr) | ((with_reducible refine Upd.id ?_); first | (refine Upd.lit rfl ?_; (conv => whnf))) | rw [g1]
          exact Fin.mk ⟨i + 1, ⟨by omega, no⟩, by omega, by repeat' first | exact Sub.nil _ | refine Sub.auto ?_, Subp.nil _⟩
        all_goals
          have yes := yes rfl
          clear no
          repeat' first | refine Ops.tag rfl ?_ | ((with_reducible first | refine OpsT.yes' ?_); (conv => arg 7; whnf)) | (with_reducible first | refine OpsT.no' ?_) | (refine OpsT.go ?_; (conv => arg 7; whnf)) | (with_reducible first | refine Stp.orF ?_ | refine Stp.orT ?_ | refine Stp.notT ?_ | refine Stp.notF ?_) | ((with_reducible refine Stp.isDec ?_); first | refine Stp.decT ?_) | ((with_reducible refine Stp.isNe ?_); first | refine Stp.neF ?_) | refine Stp.pure rfl ?_ | ((with_reducible refine PutK.isSet ?_); refine PutK.set (by repeat first | exact HsetIs.hit) ?_) | refine PutK.mk' rfl ?_ | refine Ops.nil ?_ | ((with_reducible refine Look.id ?_); refine Look.auto ?_ (by repeat first | exact HGet.hit); try (conv => arg 7; whnf)) | ((with_reducible refine Side.id ?_); first | refine Side.auto ?_) | ((with_reducible refine Br.id ?_); first | (with_reducible first | refine br_true rfl ?_)) | ((with_reducible refine SemWp.id ?_); first | refine sem_seq ?_ | refine sem_region rfl ?_ | refine sem_cond rfl ?_ | refine sem_block ?_ | refine sem_ret ?_ | refine sem_skip ?_) | ((with_reducible refine qThen.id ?_); first | refine qThen.go ?_ | refine qThen.ret ?_) | ((with_reducible refine hinBlock.id ?_); first | refine hinBlock.ret ?_) | ((with_reducible refine hround.id ?_); first | refine hround.ret ?_) | refine Stp.valS ?_ | refine Stp.valSC ?_ | refine Stp.look ?_ | refine Stp.call ?_ | refine Stp.callC ?_ | refine Stp.eff ?_ | ((with_reducible refine CallWp.id ?_); first | refine Pur.call (X) ?_ | refine Pur.call (K) ?_) | ((with_reducible refine CallC.id ?_); first | (refine Pur.askC (W) ?_ ?_; focus (intro h; first | exact ⟨h, rfl⟩))) | (refine newN (fun r hr => ?_); simp only [keys, List.nil_append, List.cons_append, List.map_cons, List.map_nil, List.mem_cons, List.not_mem_nil, not_or, or_false, not_false_eq_true] at hr) | ((with_reducible refine BodyR.id ?_); first | refine BodyR.ret ?_) | ((with_reducible refine ResG.id ?_); first | refine ResG.tmp rfl ?_ | refine ResG.nil ?_) | ((with_reducible refine Upd.id ?_); first | (refine Upd.lit rfl ?_; (conv => whnf))) | rw [g1]
          exact yes
      · rw [decide_eq_false h2] at yes
        have yes := yes (by cases b1 <;> cases b2 <;> cases b3 <;> simp)
        clear no
        repeat' first | refine Ops.tag rfl ?_ | ((with_reducible first | refine OpsT.yes' ?_); (conv => arg 7; whnf)) | (with_reducible first | refine OpsT.no' ?_) | (refine OpsT.go ?_; (conv => arg 7; whnf)) | (with_reducible first | refine Stp.orF ?_ | refine Stp.orT ?_) | ((with_reducible refine Stp.isDec ?_); first | refine Stp.decT ?_) | ((with_reducible refine Stp.isNe ?_); first | refine Stp.neT ?_ | refine Stp.neF ?_) | refine Stp.pure rfl ?_ | ((with_reducible refine PutK.isSet ?_); refine PutK.set (by repeat first | exact HsetIs.hit) ?_) | refine PutK.mk' rfl ?_ | refine Ops.nil ?_ | ((with_reducible refine Look.id ?_); refine Look.auto ?_ (by repeat first | exact HGet.hit); try (conv => arg 7; whnf)) | ((with_reducible refine Side.id ?_); first | refine Side.auto ?_) | ((with_reducible refine Br.id ?_); first | (with_reducible first | refine br_true rfl ?_)) | ((with_reducible refine SemWp.id ?_); first | refine sem_seq ?_ | refine sem_region rfl ?_ | refine sem_cond rfl ?_ | refine sem_block ?_ | refine sem_ret ?_ | refine sem_skip ?_) | ((with_reducible refine qThen.id ?_); first | refine qThen.go ?_ | refine qThen.ret ?_) | ((with_reducible refine hinBlock.id ?_); first | refine hinBlock.ret ?_) | ((with_reducible refine hround.id ?_); first | refine hround.ret ?_) | refine Stp.valS ?_ | refine Stp.look ?_ | refine Stp.eff ?_ | (refine newN (fun r hr => ?_); simp only [keys, List.nil_append, List.cons_append, List.map_cons, List.map_nil, List.mem_cons, List.not_mem_nil, not_or, or_false, not_false_eq_true] at hr) | ((with_reducible refine BodyR.id ?_); first | refine BodyR.ret ?_) | ((with_reducible refine ResG.id ?_); first | refine ResG.tmp rfl ?_ | refine ResG.nil ?_) | ((with_reducible refine Upd.id ?_); first | (refine Upd.lit rfl ?_; (conv => whnf))) | rw [g1]
        exact yes
    · rw [decide_eq_false h1] at yes
      have yes := yes (by cases b1 <;> cases b2 <;> cases b3 <;> simp)
      clear no
      repeat' first | refine Ops.tag rfl ?_ | (with_reducible first | refine OpsT.no' ?_) | (refine OpsT.go ?_; (conv => arg 7; whnf)) | (with_reducible first | refine Stp.orT ?_) | ((with_reducible refine Stp.isDec ?_); first | refine Stp.decT ?_) | ((with_reducible refine Stp.isNe ?_); first | refine Stp.neT ?_) | refine Stp.pure rfl ?_ | ((with_reducible refine PutK.isSet ?_); refine PutK.set (by repeat first | exact HsetIs.hit) ?_) | refine PutK.mk' rfl ?_ | refine Ops.nil ?_ | ((with_reducible refine Look.id ?_); refine Look.auto ?_ (by repeat first | exact HGet.hit); try (conv => arg 7; whnf)) | ((with_reducible refine Side.id ?_); first | refine Side.auto ?_) | ((with_reducible refine Br.id ?_); first | (with_reducible first | refine br_true rfl ?_)) | ((with_reducible refine SemWp.id ?_); first | refine sem_seq ?_ | refine sem_region rfl ?_ | refine sem_cond rfl ?_ | refine sem_block ?_ | refine sem_ret ?_ | refine sem_skip ?_) | ((with_reducible refine qThen.id ?_); first | refine qThen.go ?_ | refine qThen.ret ?_) | ((with_reducible refine hinBlock.id ?_); first | refine hinBlock.ret ?_) | ((with_reducible refine hround.id ?_); first | refine hround.ret ?_) | refine Stp.valS ?_ | refine Stp.look ?_ | refine Stp.eff ?_ | (refine newN (fun r hr => ?_); simp only [keys, List.nil_append, List.cons_append, List.map_cons, List.map_nil, List.mem_cons, List.not_mem_nil, not_or, or_false, not_false_eq_true] at hr) | ((with_reducible refine BodyR.id ?_); first | refine BodyR.ret ?_) | ((with_reducible refine ResG.id ?_); first | refine ResG.tmp rfl ?_ | refine ResG.nil ?_) | ((with_reducible refine Upd.id ?_); first | (refine Upd.lit rfl ?_; (conv => whnf))) | rw [g1]
      exact yes
  · have : i = l.length := by omega
    subst this
    rw [List.take_length] at i2
    have e := i2
    clear i2
    repeat' first | refine Ops.tag rfl ?_ | (refine OpsT.go ?_; (conv => arg 7; whnf)) | ((with_reducible refine Stp.isDec ?_); first | refine Stp.decF ?_) | refine Stp.pure rfl ?_ | refine Ops.nil ?_ | ((with_reducible refine Br.id ?_); first | (with_reducible first | refine br_false rfl ?_)) | ((with_reducible refine SemWp.id ?_); first | refine sem_seq ?_ | refine sem_region rfl ?_ | refine sem_cond rfl ?_ | refine sem_exit ?_ | refine sem_ret ?_) | ((with_reducible refine qThen.id ?_); first | refine qThen.go ?_) | ((with_reducible refine BodyR.id ?_); first | refine BodyR.ret ?_) | ((with_reducible refine ResG.id ?_); first | refine ResG.tmp rfl ?_ | refine ResG.nil ?_)
    exact Fin.mk (by unfold affsB; rw [e]; rfl)
end Go.Proofs.Hk

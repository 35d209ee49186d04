import Derived.Test.YtcihapdaapkdjaaDoorU1
import Derived.Test.YtcihapdaapkdjaaDoorP17
set_option linter.unusedSimpArgs false
set_option linter.unusedVariables false
namespace Go.Proofs.Hk
open Go Go.Proofs Lx

theorem pp_long (s m : ByteArray) (h : s.size > 600 ∨ ¬ s.size > 600 ∧ m.size > 600) : Pur cx 4 [ss s, ss m] (bb true) := by
  refine Pur.of (sem_calls' cx (fn := Tryd.f4) rfl rfl rfl rfl ?_)
  rcases h with h | ⟨h, h2⟩
  · repeat' first | refine Ops.tag rfl ?_ | (with_reducible first | refine OpsT.no' ?_) | (refine OpsT.go ?_; (conv => arg 7; whnf)) | (with_reducible first | refine Stp.orT ?_) | ((with_reducible refine Stp.isDec ?_); first | refine Stp.decT ?_) | refine Stp.pure rfl ?_ | refine PutK.mk' rfl ?_ | refine Ops.nil ?_ | ((with_reducible refine Side.id ?_); first | refine Side.auto ?_) | ((with_reducible refine Br.id ?_); first | (with_reducible first | refine br_true rfl ?_)) | ((with_reducible refine SemWp.id ?_); first | refine sem_seq ?_ | refine sem_region rfl ?_ | refine sem_cond rfl ?_ | refine sem_ret ?_) | ((with_reducible refine qThen.id ?_); first | refine qThen.go ?_ | refine qThen.ret ?_) | refine Stp.valS ?_ | refine Stp.call ?_ | ((with_reducible refine CallWp.id ?_); first | refine Pur.call (awake_spec) ?_) | ((with_reducible refine BodyR.id ?_); first | refine BodyR.ret ?_) | ((with_reducible refine ResG.id ?_); first | refine ResG.tmp rfl ?_ | refine ResG.nil ?_)
    exact Fin.mk rfl
  · repeat' first | refine Ops.tag rfl ?_ | ((with_reducible first | refine OpsT.yes' ?_); (conv => arg 7; whnf)) | (refine OpsT.go ?_; (conv => arg 7; whnf)) | (with_reducible first | refine Stp.orF ?_) | ((with_reducible refine Stp.isDec ?_); first | refine Stp.decT ?_ | refine Stp.decF ?_) | refine Stp.pure rfl ?_ | refine PutK.mk' rfl ?_ | refine Ops.nil ?_ | ((with_reducible refine Side.id ?_); first | refine Side.auto ?_) | ((with_reducible refine Br.id ?_); first | (with_reducible first | refine br_true rfl ?_)) | ((with_reducible refine SemWp.id ?_); first | refine sem_seq ?_ | refine sem_region rfl ?_ | refine sem_cond rfl ?_ | refine sem_ret ?_) | ((with_reducible refine qThen.id ?_); first | refine qThen.go ?_ | refine qThen.ret ?_) | refine Stp.call ?_ | ((with_reducible refine CallWp.id ?_); first | refine Pur.call (awake_spec) ?_) | ((with_reducible refine BodyR.id ?_); first | refine BodyR.ret ?_) | ((with_reducible refine ResG.id ?_); first | refine ResG.tmp rfl ?_ | refine ResG.nil ?_)
    exact Fin.mk rfl
theorem pp_lex (s m : ByteArray) (h1 : ¬ s.size > 600) (h2 : ¬ m.size > 600) (e : Int) (p : Nat) (hl : lexR s = .error (e, p)) : Pur cx 4 [ss s, ss m] (bb true) := by
  have L := Lex_spec s
  have P := Prog_spec s
  have h0 : ¬ e = 0 := lexR_ne0 hl
  rw [show progR s = ([], e, (p : Int)) from by unfold progR; rw [hl]] at P
  rw [hl] at L
  have L : Pur cx 9 [ss s] (.tup [.list .no 3 [], ii e, ii p]) := L
  have P : Pur cx 8 [ss s] (.tup [.agg [LPDs []], ii e, ii p]) := P
  refine Pur.of (sem_calls' cx (fn := Tryd.f4) rfl rfl rfl rfl ?_)
  repeat' first | refine Ops.tag rfl ?_ | ((with_reducible first | refine OpsT.yes' ?_); (conv => arg 7; whnf)) | (with_reducible first | refine OpsT.andF ?_ | refine OpsT.no ?_ | refine OpsT.no' ?_) | (refine OpsT.go ?_; (conv => arg 7; whnf)) | (with_reducible first | refine Stp.orF ?_ | refine Stp.orT ?_) | ((with_reducible refine Stp.isDec ?_); first | refine Stp.decF ?_) | ((with_reducible refine Stp.isNe ?_); first | refine Stp.neT ?_) | refine Stp.pure rfl ?_ | ((with_reducible refine PutK.isSet ?_); refine PutK.set (by repeat first | exact HsetIs.hit) ?_) | refine PutK.mk' rfl ?_ | refine Ops.nil ?_ | ((with_reducible refine Look.id ?_); refine Look.auto ?_ (by repeat first | exact HGet.hit); try (conv => arg 7; whnf)) | ((with_reducible refine Side.id ?_); first | refine Side.auto ?_) | ((with_reducible refine Br.id ?_); first | (with_reducible first | refine br_true rfl ?_ | refine br_false rfl ?_)) | ((with_reducible refine SemWp.id ?_); first | refine sem_seq ?_ | refine sem_region rfl ?_ | refine sem_cond rfl ?_ | refine sem_ret ?_ | refine sem_skip ?_) | ((with_reducible refine qThen.id ?_); first | refine qThen.go ?_ | refine qThen.ret ?_) | refine Stp.valS ?_ | refine Stp.look ?_ | refine Stp.call ?_ | refine Stp.eff ?_ | ((with_reducible refine CallWp.id ?_); first | refine Pur.call (awake_spec) ?_ | refine Pur.call (L) ?_ | refine Pur.call (P) ?_ | refine Pur.call (Num_spec _) ?_) | (refine newN (fun r hr => ?_); simp only [keys, List.nil_append, List.cons_append, List.map_cons, List.map_nil, List.mem_cons, List.not_mem_nil, not_or, or_false, not_false_eq_true] at hr) | ((with_reducible refine BodyR.id ?_); first | refine BodyR.ret ?_) | ((with_reducible refine ResG.id ?_); first | refine ResG.tmp rfl ?_ | refine ResG.nil ?_) | ((with_reducible refine Upd.id ?_); first | (refine Upd.lit rfl ?_; (conv => whnf)))
  exact Fin.mk rfl
theorem pp_ok (s m : ByteArray) (h1 : ¬ s.size > 600) (h2 : ¬ m.size > 600) (l : List Tk) (hl : lexR s = .ok l) (ps : List PD) (hp : progR s = (ps, 0, 0)) : Pur cx 4 [ss s, ss m] (bb true) := by
  have L := Lex_spec s
  have P := Prog_spec s
  rw [hp] at P
  rw [hl] at L
  have L : Pur cx 9 [ss s] (.tup [.list .no 3 (l.map tokD), ii 0, ii 0]) := L
  have P : Pur cx 8 [ss s] (.tup [.agg [LPDs ps], ii 0, ii 0]) := P
  refine Pur.of (sem_calls' cx (fn := Tryd.f4) rfl rfl rfl rfl ?_)
  repeat' first | refine Ops.tag rfl ?_ | ((with_reducible first | refine OpsT.yes ?_ | refine OpsT.yes' ?_); (conv => arg 7; whnf)) | (refine OpsT.go ?_; (conv => arg 7; whnf)) | (with_reducible first | refine Stp.orF ?_ | refine Stp.andT ?_) | ((with_reducible refine Stp.isDec ?_); first | refine Stp.decF ?_) | ((with_reducible refine Stp.isNe ?_); first | refine Stp.neT ?_ | refine Stp.neF ?_) | refine Stp.pure rfl ?_ | ((with_reducible refine PutK.isSet ?_); refine PutK.set (by repeat first | exact HsetIs.hit) ?_) | refine PutK.mk' rfl ?_ | refine Ops.nil ?_ | ((with_reducible refine Look.id ?_); refine Look.auto ?_ (by repeat first | exact HGet.hit); try (conv => arg 7; whnf)) | ((with_reducible refine Side.id ?_); first | refine Side.auto ?_) | ((with_reducible refine Br.id ?_); first | (with_reducible first | refine br_true rfl ?_ | refine br_false rfl ?_)) | ((with_reducible refine SemWp.id ?_); first | refine sem_seq ?_ | refine sem_region rfl ?_ | refine sem_cond rfl ?_ | refine sem_ret ?_ | refine sem_skip ?_) | ((with_reducible refine qThen.id ?_); first | refine qThen.go ?_ | refine qThen.ret ?_) | refine Stp.look ?_ | refine Stp.call ?_ | refine Stp.eff ?_ | ((with_reducible refine CallWp.id ?_); first | refine Pur.call (awake_spec) ?_ | refine Pur.call (L) ?_ | refine Pur.call (P) ?_ | refine Pur.call (Num_spec _) ?_) | (refine newN (fun r hr => ?_); simp only [keys, List.nil_append, List.cons_append, List.map_cons, List.map_nil, List.mem_cons, List.not_mem_nil, not_or, or_false, not_false_eq_true] at hr) | ((with_reducible refine BodyR.id ?_); first | refine BodyR.ret ?_) | ((with_reducible refine ResG.id ?_); first | refine ResG.tmp rfl ?_ | refine ResG.nil ?_) | ((with_reducible refine Upd.id ?_); first | (refine Upd.lit rfl ?_; (conv => whnf)))
  exact Fin.mk rfl
/-- What the law has found behind so many tokens. -/
def seen (k i : Nat) : Int := if k < i then (k : Int) else -1
set_option maxHeartbeats 4000000 in
theorem pp_er (s m : ByteArray) (h1 : ¬ s.size > 600) (h2 : ¬ m.size > 600) (l : List Tk) (hl : lexR s = .ok l) (c d : Int) (k : Nat) (hp : pProg l (16 * l.length + 4) [] 0 = some (.error (c, k, d))) : Pur cx 4 [ss s, ss m] (bb true) := by
  have L := Lex_spec s
  have P := Prog_spec s
  have wf := (lexR_wf hl).toWfT
  have wl := wf.len
  obtain ⟨hk, _, hc⟩ := pProg_err wf _ _ _ (lexR_pos hl) _ _ _ hp
  rw [show progR s = ([], c, ((tk l k).pos : Int)) from by unfold progR; rw [hl]; simp only []; rw [hp]] at P
  rw [hl] at L
  have L : Pur cx 9 [ss s] (.tup [.list .no 3 (l.map tokD), ii 0, ii 0]) := L
  have P : Pur cx 8 [ss s] (.tup [.agg [LPDs []], ii c, ii (tk l k).pos]) := P
  have ml : (l.map tokD).length = l.length := by simp
  have gt := fun (i : Nat) (hi : i < l.length) => getD_tk hi
  have PO := fun (i : Nat) (hi : i < l.length) (e : (tk l i).pos = (tk l k).pos) => pos_one hl hi hk e
  have gk := gt k hk
  have LM := Lex_spec m
  have LMe : ∀ e p, lexR m = .error (e, p) → Pur cx 9 [ss m] (.tup [.list .no 3 [], ii e, ii p]) ∧ ¬ e = 0 := fun e p h => by
    rw [h] at LM
    exact ⟨LM, lexR_ne0 h⟩
  have LMo : ∀ lm, lexR m = .ok lm → k + 1 < l.length → Pur cx 9 [ss m] (.tup [.list .no 3 (lm.map tokD), ii 0, ii 0]) ∧ (tk l k).pos + (tk l k).text.size ≤ s.size ∧ Pur cx 8 [ss (moreT s ((tk l k).pos + (tk l k).text.size) m)] (.tup [.agg [LPDs []], ii c, ii (tk l k).pos]) := fun lm h hk1 => by
    rw [h] at LM
    obtain ⟨q1, q2⟩ := more_prog hl h hp hk1 (by omega) (by omega)
    have Q := Prog_spec (moreT s ((tk l k).pos + (tk l k).text.size) m)
    rw [q2] at Q
    exact ⟨LM, q1, Q⟩
  unfold moreT at LMo
  clear LM hp hl wf
  refine Pur.of (sem_calls' cx (fn := Tryd.f4) rfl rfl rfl rfl ?_)
  have c0 : ¬ c = 0 := by omega
  have W0 : ∃ b : Bool, True := ⟨true, trivial⟩
  rcases hc with rfl | rfl
  · repeat' first | refine Ops.tag rfl ?_ | ((with_reducible first | refine OpsT.yes' ?_); (conv => arg 7; whnf)) | (with_reducible first | refine OpsT.no ?_) | (refine OpsT.go ?_; (conv => arg 7; whnf)) | (with_reducible first | refine Stp.orF ?_ | refine Stp.andF ?_) | ((with_reducible refine Stp.isDec ?_); first | refine Stp.decF ?_) | ((with_reducible refine Stp.isNe ?_); first | refine Stp.neF ?_) | refine Stp.pure rfl ?_ | ((with_reducible refine PutK.isSet ?_); refine PutK.set (by repeat first | exact HsetIs.hit) ?_) | refine PutK.mk' rfl ?_ | refine Ops.nil ?_ | ((with_reducible refine Look.id ?_); refine Look.auto ?_ (by repeat first | exact HGet.hit); try (conv => arg 7; whnf)) | ((with_reducible refine Side.id ?_); first | refine Side.auto ?_) | ((with_reducible refine Br.id ?_); first | (with_reducible first | refine br_false rfl ?_)) | ((with_reducible refine SemWp.id ?_); first | refine sem_seq ?_ | refine sem_region rfl ?_ | refine sem_cond rfl ?_ | refine sem_block ?_ | refine sem_skip ?_) | ((with_reducible refine qThen.id ?_); first | refine qThen.go ?_) | refine Stp.valS ?_ | refine Stp.look ?_ | refine Stp.call ?_ | refine Stp.eff ?_ | ((with_reducible refine CallWp.id ?_); first | refine Pur.call (L) ?_ | refine Pur.call (P) ?_ | refine Pur.call (Num_spec _) ?_) | (refine newN (fun r hr => ?_); simp only [keys, List.nil_append, List.cons_append, List.map_cons, List.map_nil, List.mem_cons, List.not_mem_nil, not_or, or_false, not_false_eq_true] at hr) | ((with_reducible refine Upd.id ?_); first | (refine Upd.lit rfl ?_; (conv => whnf)))
    refine sem_loop cx (ι := Nat) (fun i => i ≤ l.length) (fun i => [(0, .sure, ss s), (1, .sure, ss m), (6, .sure, ii 4), (7, .sure, ii (tk l k).pos), (8, .sure, .list .no 3 (l.map tokD)), (11, .sure, ii (seen k i)), (12, .sure, ii i)]) (fun _ => []) (fun i => l.length - i) 0 (Nat.zero_le _) (by repeat' first | exact Sub.nil _ | refine Sub.auto ?_) (Subp.nil _) ?_
    intro i i1
    by_cases hi : i < l.length
    · have g1 := gt i hi
      by_cases he : i = k
      · have s1 : seen k (i + 1) = (i : Int) := by unfold seen; rw [if_pos (by omega), he]
        have p1 : (tk l i).pos = (tk l k).pos := by rw [he]
        clear PO gt gk LMe LMo
        generalize (tk l i).kind = kd at *
        generalize (tk l i).text = tx at *
        generalize (tk l i).pos = po at *
        generalize (tk l k).pos = pk at *
        repeat' first | refine Ops.tag rfl ?_ | (refine OpsT.go ?_; (conv => arg 7; whnf)) | ((with_reducible refine Stp.isSum ?_); refine Stp.sum ?_) | ((with_reducible refine Stp.isDec ?_); first | refine Stp.decT ?_) | ((with_reducible refine Stp.isEq ?_); first | refine Stp.eqT ?_) | refine Stp.pure rfl ?_ | refine Ops.nil ?_ | ((with_reducible refine Side.id ?_); first | refine Side.auto ?_) | ((with_reducible refine Br.id ?_); first | (with_reducible first | refine br_true rfl ?_)) | ((with_reducible refine SemWp.id ?_); first | refine sem_seq ?_ | refine sem_region rfl ?_ | refine sem_cond rfl ?_ | refine sem_block ?_ | refine sem_skip ?_) | ((with_reducible refine qThen.id ?_); first | refine qThen.go ?_) | ((with_reducible refine hinBlock.id ?_); first | refine hinBlock.go ?_) | ((with_reducible refine hround.id ?_); first | refine hround.go ?_) | refine Stp.valS ?_ | rw [g1]
        exact Fin.mk ⟨i + 1, by omega, by omega, by repeat' first | exact Sub.nil _ | refine Sub.auto ?_ rfl (by first | rfl | assumption | omega | (rw [s1])), Subp.nil _⟩
      · have s1 : seen k (i + 1) = seen k i := by unfold seen; split <;> split <;> omega
        have p1 : ¬ ((tk l i).pos : Int) = (tk l k).pos := fun e => he (PO i hi (by omega))
        clear PO gt gk LMe LMo
        generalize (tk l i).kind = kd at *
        generalize (tk l i).text = tx at *
        generalize (tk l i).pos = po at *
        generalize (tk l k).pos = pk at *
        repeat' first | refine Ops.tag rfl ?_ | (refine OpsT.go ?_; (conv => arg 7; whnf)) | ((with_reducible refine Stp.isSum ?_); refine Stp.sum ?_) | ((with_reducible refine Stp.isDec ?_); first | refine Stp.decT ?_) | ((with_reducible refine Stp.isEq ?_); first | refine Stp.eqF ?_) | refine Stp.pure rfl ?_ | refine Ops.nil ?_ | ((with_reducible refine Side.id ?_); first | refine Side.auto ?_) | ((with_reducible refine Br.id ?_); first | (with_reducible first | refine br_true rfl ?_ | refine br_false rfl ?_)) | ((with_reducible refine SemWp.id ?_); first | refine sem_seq ?_ | refine sem_region rfl ?_ | refine sem_cond rfl ?_ | refine sem_block ?_ | refine sem_skip ?_) | ((with_reducible refine qThen.id ?_); first | refine qThen.go ?_) | ((with_reducible refine hinBlock.id ?_); first | refine hinBlock.go ?_) | ((with_reducible refine hround.id ?_); first | refine hround.go ?_) | refine Stp.valS ?_ | rw [g1]
        exact Fin.mk ⟨i + 1, by omega, by omega, by repeat' first | exact Sub.nil _ | refine Sub.auto ?_ rfl (by first | rfl | assumption | omega | (rw [s1])), Subp.nil _⟩
    · have hil : i = l.length := by omega
      subst hil
      have sk : seen k l.length = (k : Int) := by unfold seen; rw [if_pos hk]
      by_cases hk1 : k + 1 < l.length
      rotate_left
      · rw [sk]
        repeat' first | refine Ops.tag rfl ?_ | (refine OpsT.go ?_; (conv => arg 7; whnf)) | ((with_reducible refine Stp.isSum ?_); refine Stp.sum ?_) | ((with_reducible refine Stp.isDec ?_); first | refine Stp.decF ?_) | ((with_reducible refine Stp.isEq ?_); first | refine Stp.eqT ?_) | refine Stp.pure rfl ?_ | refine PutK.mk' rfl ?_ | refine Ops.nil ?_ | ((with_reducible refine Side.id ?_); first | refine Side.auto ?_) | ((with_reducible refine Br.id ?_); first | (with_reducible first | refine br_true rfl ?_ | refine br_false rfl ?_)) | ((with_reducible refine SemWp.id ?_); first | refine sem_seq ?_ | refine sem_region rfl ?_ | refine sem_cond rfl ?_ | refine sem_exit ?_ | refine sem_ret ?_ | refine sem_skip ?_) | ((with_reducible refine qThen.id ?_); first | refine qThen.go ?_ | refine qThen.ret ?_) | refine Stp.call ?_ | ((with_reducible refine CallWp.id ?_); first | refine Pur.call (awake_spec) ?_) | ((with_reducible refine BodyR.id ?_); first | refine BodyR.ret ?_) | ((with_reducible refine ResG.id ?_); first | refine ResG.tmp rfl ?_ | refine ResG.nil ?_)
        exact Fin.mk rfl
      · rw [sk]
        clear PO gt
        cases hm : lexR m with
        | error x =>
          obtain ⟨M1, M2⟩ := LMe x.1 x.2 hm
          repeat' first | refine Ops.tag rfl ?_ | (refine OpsT.go ?_; (conv => arg 7; whnf)) | ((with_reducible refine Stp.isSum ?_); refine Stp.sum ?_) | ((with_reducible refine Stp.isDec ?_); first | refine Stp.decF ?_) | ((with_reducible refine Stp.isEq ?_); first | refine Stp.eqF ?_) | ((with_reducible refine Stp.isNe ?_); first | refine Stp.neT ?_) | refine Stp.pure rfl ?_ | refine PutK.mk' rfl ?_ | refine Ops.nil ?_ | ((with_reducible refine Side.id ?_); first | refine Side.auto ?_) | ((with_reducible refine Br.id ?_); first | (with_reducible first | refine br_true rfl ?_ | refine br_false rfl ?_)) | ((with_reducible refine SemWp.id ?_); first | refine sem_seq ?_ | refine sem_region rfl ?_ | refine sem_cond rfl ?_ | refine sem_exit ?_ | refine sem_ret ?_ | refine sem_skip ?_) | ((with_reducible refine qThen.id ?_); first | refine qThen.go ?_ | refine qThen.ret ?_) | refine Stp.call ?_ | ((with_reducible refine CallWp.id ?_); first | refine Pur.call (awake_spec) ?_ | refine Pur.call (M1) ?_ | refine Pur.call (Num_spec _) ?_) | ((with_reducible refine BodyR.id ?_); first | refine BodyR.ret ?_) | ((with_reducible refine ResG.id ?_); first | refine ResG.tmp rfl ?_ | refine ResG.nil ?_)
          exact Fin.mk rfl
        | ok lm =>
          obtain ⟨M1, M2, M3⟩ := LMo lm hm hk1
          clear LMe LMo
          generalize (tk l k).kind = kd at *
          generalize (tk l k).text = tx at *
          generalize (tk l k).pos = pk at *
          have ez : ((pk : Int) + (tx.size : Int)).toNat = pk + tx.size := by omega
          have sz : (s.extract 0 (pk + tx.size)).size = pk + tx.size := by rw [size_extract M2]; omega
          have s32 : (⟨#[32]⟩ : ByteArray).size = 1 := rfl
          repeat' first | refine Ops.tag rfl ?_ | ((with_reducible first | refine OpsT.yes ?_); (conv => arg 7; whnf)) | (refine OpsT.go ?_; (conv => arg 7; whnf)) | (with_reducible first | refine Stp.andT ?_) | ((with_reducible refine Stp.isSum ?_); refine Stp.sum ?_) | ((with_reducible refine Stp.isDec ?_); first | refine Stp.decF ?_) | ((with_reducible refine Stp.isEq ?_); first | refine Stp.eqT ?_ | refine Stp.eqF ?_) | ((with_reducible refine Stp.isNe ?_); first | refine Stp.neF ?_) | refine Stp.pure rfl ?_ | ((with_reducible refine PutK.isSet ?_); refine PutK.set (by repeat first | exact HsetIs.hit) ?_) | refine PutK.mk' rfl ?_ | refine Ops.nil ?_ | ((with_reducible refine Look.id ?_); refine Look.auto ?_ (by repeat first | exact HGet.hit); try (conv => arg 7; whnf)) | ((with_reducible refine Side.id ?_); first | refine Side.auto ?_) | ((with_reducible refine Br.id ?_); first | (with_reducible first | refine br_false rfl ?_)) | ((with_reducible refine SemWp.id ?_); first | refine sem_seq ?_ | refine sem_region rfl ?_ | refine sem_cond rfl ?_ | refine sem_exit ?_ | refine sem_ret ?_ | refine sem_skip ?_) | ((with_reducible refine qThen.id ?_); first | refine qThen.go ?_) | refine Stp.valS ?_ | refine Stp.look ?_ | refine Stp.call ?_ | refine Stp.eff ?_ | ((with_reducible refine CallWp.id ?_); first | refine Pur.call (awake_spec) ?_ | refine Pur.call (M1) ?_ | refine Pur.call (M3) ?_ | refine Pur.call (Num_spec _) ?_) | (refine newN (fun r hr => ?_); simp only [keys, List.nil_append, List.cons_append, List.map_cons, List.map_nil, List.mem_cons, List.not_mem_nil, not_or, or_false, not_false_eq_true] at hr) | ((with_reducible refine BodyR.id ?_); first | refine BodyR.ret ?_) | ((with_reducible refine ResG.id ?_); first | refine ResG.tmp rfl ?_ | refine ResG.nil ?_) | ((with_reducible refine Upd.id ?_); first | (refine Upd.lit rfl ?_; (conv => whnf))) | rw [gk]
          exact Fin.mk rfl
  · repeat' first | refine Ops.tag rfl ?_ | ((with_reducible first | refine OpsT.yes ?_ | refine OpsT.yes' ?_); (conv => arg 7; whnf)) | (refine OpsT.go ?_; (conv => arg 7; whnf)) | (with_reducible first | refine Stp.orF ?_ | refine Stp.andT ?_) | ((with_reducible refine Stp.isDec ?_); first | refine Stp.decF ?_) | ((with_reducible refine Stp.isNe ?_); first | refine Stp.neT ?_ | refine Stp.neF ?_) | refine Stp.pure rfl ?_ | ((with_reducible refine PutK.isSet ?_); refine PutK.set (by repeat first | exact HsetIs.hit) ?_) | refine PutK.mk' rfl ?_ | refine Ops.nil ?_ | ((with_reducible refine Look.id ?_); refine Look.auto ?_ (by repeat first | exact HGet.hit); try (conv => arg 7; whnf)) | ((with_reducible refine Side.id ?_); first | refine Side.auto ?_) | ((with_reducible refine Br.id ?_); first | (with_reducible first | refine br_false rfl ?_)) | ((with_reducible refine SemWp.id ?_); first | refine sem_seq ?_ | refine sem_region rfl ?_ | refine sem_cond rfl ?_ | refine sem_block ?_ | refine sem_skip ?_) | ((with_reducible refine qThen.id ?_); first | refine qThen.go ?_) | refine Stp.look ?_ | refine Stp.call ?_ | refine Stp.eff ?_ | ((with_reducible refine CallWp.id ?_); first | refine Pur.call (L) ?_ | refine Pur.call (P) ?_ | refine Pur.call (Num_spec _) ?_) | (refine newN (fun r hr => ?_); simp only [keys, List.nil_append, List.cons_append, List.map_cons, List.map_nil, List.mem_cons, List.not_mem_nil, not_or, or_false, not_false_eq_true] at hr) | ((with_reducible refine Upd.id ?_); first | (refine Upd.lit rfl ?_; (conv => whnf)))
    refine sem_loop cx (ι := Nat) (fun i => i ≤ l.length) (fun i => [(0, .sure, ss s), (1, .sure, ss m), (6, .sure, ii 5), (7, .sure, ii (tk l k).pos), (8, .sure, .list .no 3 (l.map tokD)), (11, .sure, ii (seen k i)), (12, .sure, ii i)]) (fun _ => []) (fun i => l.length - i) 0 (Nat.zero_le _) (by repeat' first | exact Sub.nil _ | refine Sub.auto ?_) (Subp.nil _) ?_
    intro i i1
    by_cases hi : i < l.length
    · have g1 := gt i hi
      by_cases he : i = k
      · have s1 : seen k (i + 1) = (i : Int) := by unfold seen; rw [if_pos (by omega), he]
        have p1 : (tk l i).pos = (tk l k).pos := by rw [he]
        clear PO gt gk LMe LMo
        generalize (tk l i).kind = kd at *
        generalize (tk l i).text = tx at *
        generalize (tk l i).pos = po at *
        generalize (tk l k).pos = pk at *
        repeat' first | refine Ops.tag rfl ?_ | (refine OpsT.go ?_; (conv => arg 7; whnf)) | ((with_reducible refine Stp.isSum ?_); refine Stp.sum ?_) | ((with_reducible refine Stp.isDec ?_); first | refine Stp.decT ?_) | ((with_reducible refine Stp.isEq ?_); first | refine Stp.eqT ?_) | refine Stp.pure rfl ?_ | refine Ops.nil ?_ | ((with_reducible refine Side.id ?_); first | refine Side.auto ?_) | ((with_reducible refine Br.id ?_); first | (with_reducible first | refine br_true rfl ?_)) | ((with_reducible refine SemWp.id ?_); first | refine sem_seq ?_ | refine sem_region rfl ?_ | refine sem_cond rfl ?_ | refine sem_block ?_ | refine sem_skip ?_) | ((with_reducible refine qThen.id ?_); first | refine qThen.go ?_) | ((with_reducible refine hinBlock.id ?_); first | refine hinBlock.go ?_) | ((with_reducible refine hround.id ?_); first | refine hround.go ?_) | refine Stp.valS ?_ | rw [g1]
        exact Fin.mk ⟨i + 1, by omega, by omega, by repeat' first | exact Sub.nil _ | refine Sub.auto ?_ rfl (by first | rfl | assumption | omega | (rw [s1])), Subp.nil _⟩
      · have s1 : seen k (i + 1) = seen k i := by unfold seen; split <;> split <;> omega
        have p1 : ¬ ((tk l i).pos : Int) = (tk l k).pos := fun e => he (PO i hi (by omega))
        clear PO gt gk LMe LMo
        generalize (tk l i).kind = kd at *
        generalize (tk l i).text = tx at *
        generalize (tk l i).pos = po at *
        generalize (tk l k).pos = pk at *
        repeat' first | refine Ops.tag rfl ?_ | (refine OpsT.go ?_; (conv => arg 7; whnf)) | ((with_reducible refine Stp.isSum ?_); refine Stp.sum ?_) | ((with_reducible refine Stp.isDec ?_); first | refine Stp.decT ?_) | ((with_reducible refine Stp.isEq ?_); first | refine Stp.eqF ?_) | refine Stp.pure rfl ?_ | refine Ops.nil ?_ | ((with_reducible refine Side.id ?_); first | refine Side.auto ?_) | ((with_reducible refine Br.id ?_); first | (with_reducible first | refine br_true rfl ?_ | refine br_false rfl ?_)) | ((with_reducible refine SemWp.id ?_); first | refine sem_seq ?_ | refine sem_region rfl ?_ | refine sem_cond rfl ?_ | refine sem_block ?_ | refine sem_skip ?_) | ((with_reducible refine qThen.id ?_); first | refine qThen.go ?_) | ((with_reducible refine hinBlock.id ?_); first | refine hinBlock.go ?_) | ((with_reducible refine hround.id ?_); first | refine hround.go ?_) | refine Stp.valS ?_ | rw [g1]
        exact Fin.mk ⟨i + 1, by omega, by omega, by repeat' first | exact Sub.nil _ | refine Sub.auto ?_ rfl (by first | rfl | assumption | omega | (rw [s1])), Subp.nil _⟩
    · have hil : i = l.length := by omega
      subst hil
      have sk : seen k l.length = (k : Int) := by unfold seen; rw [if_pos hk]
      by_cases hk1 : k + 1 < l.length
      rotate_left
      · rw [sk]
        repeat' first | refine Ops.tag rfl ?_ | (refine OpsT.go ?_; (conv => arg 7; whnf)) | ((with_reducible refine Stp.isSum ?_); refine Stp.sum ?_) | ((with_reducible refine Stp.isDec ?_); first | refine Stp.decF ?_) | ((with_reducible refine Stp.isEq ?_); first | refine Stp.eqT ?_) | refine Stp.pure rfl ?_ | refine PutK.mk' rfl ?_ | refine Ops.nil ?_ | ((with_reducible refine Side.id ?_); first | refine Side.auto ?_) | ((with_reducible refine Br.id ?_); first | (with_reducible first | refine br_true rfl ?_ | refine br_false rfl ?_)) | ((with_reducible refine SemWp.id ?_); first | refine sem_seq ?_ | refine sem_region rfl ?_ | refine sem_cond rfl ?_ | refine sem_exit ?_ | refine sem_ret ?_ | refine sem_skip ?_) | ((with_reducible refine qThen.id ?_); first | refine qThen.go ?_ | refine qThen.ret ?_) | refine Stp.call ?_ | ((with_reducible refine CallWp.id ?_); first | refine Pur.call (awake_spec) ?_) | ((with_reducible refine BodyR.id ?_); first | refine BodyR.ret ?_) | ((with_reducible refine ResG.id ?_); first | refine ResG.tmp rfl ?_ | refine ResG.nil ?_)
        exact Fin.mk rfl
      · rw [sk]
        clear PO gt
        cases hm : lexR m with
        | error x =>
          obtain ⟨M1, M2⟩ := LMe x.1 x.2 hm
          repeat' first | refine Ops.tag rfl ?_ | (refine OpsT.go ?_; (conv => arg 7; whnf)) | ((with_reducible refine Stp.isSum ?_); refine Stp.sum ?_) | ((with_reducible refine Stp.isDec ?_); first | refine Stp.decF ?_) | ((with_reducible refine Stp.isEq ?_); first | refine Stp.eqF ?_) | ((with_reducible refine Stp.isNe ?_); first | refine Stp.neT ?_) | refine Stp.pure rfl ?_ | refine PutK.mk' rfl ?_ | refine Ops.nil ?_ | ((with_reducible refine Side.id ?_); first | refine Side.auto ?_) | ((with_reducible refine Br.id ?_); first | (with_reducible first | refine br_true rfl ?_ | refine br_false rfl ?_)) | ((with_reducible refine SemWp.id ?_); first | refine sem_seq ?_ | refine sem_region rfl ?_ | refine sem_cond rfl ?_ | refine sem_exit ?_ | refine sem_ret ?_ | refine sem_skip ?_) | ((with_reducible refine qThen.id ?_); first | refine qThen.go ?_ | refine qThen.ret ?_) | refine Stp.call ?_ | ((with_reducible refine CallWp.id ?_); first | refine Pur.call (awake_spec) ?_ | refine Pur.call (M1) ?_ | refine Pur.call (Num_spec _) ?_) | ((with_reducible refine BodyR.id ?_); first | refine BodyR.ret ?_) | ((with_reducible refine ResG.id ?_); first | refine ResG.tmp rfl ?_ | refine ResG.nil ?_)
          exact Fin.mk rfl
        | ok lm =>
          obtain ⟨M1, M2, M3⟩ := LMo lm hm hk1
          clear LMe LMo
          generalize (tk l k).kind = kd at *
          generalize (tk l k).text = tx at *
          generalize (tk l k).pos = pk at *
          have ez : ((pk : Int) + (tx.size : Int)).toNat = pk + tx.size := by omega
          have sz : (s.extract 0 (pk + tx.size)).size = pk + tx.size := by rw [size_extract M2]; omega
          have s32 : (⟨#[32]⟩ : ByteArray).size = 1 := rfl
          repeat' first | refine Ops.tag rfl ?_ | ((with_reducible first | refine OpsT.yes ?_); (conv => arg 7; whnf)) | (refine OpsT.go ?_; (conv => arg 7; whnf)) | (with_reducible first | refine Stp.andT ?_) | ((with_reducible refine Stp.isSum ?_); refine Stp.sum ?_) | ((with_reducible refine Stp.isDec ?_); first | refine Stp.decF ?_) | ((with_reducible refine Stp.isEq ?_); first | refine Stp.eqT ?_ | refine Stp.eqF ?_) | ((with_reducible refine Stp.isNe ?_); first | refine Stp.neF ?_) | refine Stp.pure rfl ?_ | ((with_reducible refine PutK.isSet ?_); refine PutK.set (by repeat first | exact HsetIs.hit) ?_) | refine PutK.mk' rfl ?_ | refine Ops.nil ?_ | ((with_reducible refine Look.id ?_); refine Look.auto ?_ (by repeat first | exact HGet.hit); try (conv => arg 7; whnf)) | ((with_reducible refine Side.id ?_); first | refine Side.auto ?_) | ((with_reducible refine Br.id ?_); first | (with_reducible first | refine br_false rfl ?_)) | ((with_reducible refine SemWp.id ?_); first | refine sem_seq ?_ | refine sem_region rfl ?_ | refine sem_cond rfl ?_ | refine sem_exit ?_ | refine sem_ret ?_ | refine sem_skip ?_) | ((with_reducible refine qThen.id ?_); first | refine qThen.go ?_) | refine Stp.valS ?_ | refine Stp.look ?_ | refine Stp.call ?_ | refine Stp.eff ?_ | ((with_reducible refine CallWp.id ?_); first | refine Pur.call (awake_spec) ?_ | refine Pur.call (M1) ?_ | refine Pur.call (M3) ?_ | refine Pur.call (Num_spec _) ?_) | (refine newN (fun r hr => ?_); simp only [keys, List.nil_append, List.cons_append, List.map_cons, List.map_nil, List.mem_cons, List.not_mem_nil, not_or, or_false, not_false_eq_true] at hr) | ((with_reducible refine BodyR.id ?_); first | refine BodyR.ret ?_) | ((with_reducible refine ResG.id ?_); first | refine ResG.tmp rfl ?_ | refine ResG.nil ?_) | ((with_reducible refine Upd.id ?_); first | (refine Upd.lit rfl ?_; (conv => whnf))) | rw [gk]
          exact Fin.mk rfl
theorem ParsePlaces_spec (s m : ByteArray) : Pur cx 4 [ss s, ss m] (bb true) := by
  by_cases h1 : s.size > 600
  · exact pp_long s m (.inl h1)
  by_cases h2 : m.size > 600
  · exact pp_long s m (.inr ⟨h1, h2⟩)
  cases hl : lexR s with
  | error x => exact pp_lex s m h1 h2 x.1 x.2 hl
  | ok l =>
    have wf := (lexR_wf hl).toWfT
    cases hp : pProg l (16 * l.length + 4) [] 0 with
    | none => exact absurd hp (pProg_some wf _ _ _ (lexR_pos hl) (by omega))
    | some res =>
      cases res with
      | ok x => exact pp_ok s m h1 h2 l hl x.1 (by unfold progR; rw [hl]; simp only []; rw [hp])
      | error x =>
        obtain ⟨c, k, d⟩ := x
        exact pp_er s m h1 h2 l hl c d k hp
end Go.Proofs.Hk

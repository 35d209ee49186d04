import Derived.Test.YtcihapdaapkdjaaDoorU1
import Derived.Test.YtcihapdaapkdjaaDoorP12
set_option linter.unusedSimpArgs false
set_option linter.unusedVariables false
namespace Go.Proofs.Hk
open Go Go.Proofs

theorem progV_eq (r : List PD × Int × Int) : progV r = .tup [.agg [LPDs r.1], ii r.2.1, ii r.2.2] := rfl
theorem pb_long (s : ByteArray) (w : Nat) (h : s.size > 600) : Pur cx 3 [ss s, cc w] (bb true) := by
  refine Pur.of (sem_calls' cx (fn := Tryd.f3) rfl rfl rfl rfl ?_)
  repeat' first | refine Ops.tag rfl ?_ | (refine OpsT.go ?_; (conv => arg 7; whnf)) | ((with_reducible refine Stp.isDec ?_); first | refine Stp.decT ?_) | refine Stp.pure rfl ?_ | refine PutK.mk' rfl ?_ | refine Ops.nil ?_ | ((with_reducible refine Side.id ?_); first | refine Side.auto ?_) | ((with_reducible refine Br.id ?_); first | (with_reducible first | refine br_true rfl ?_)) | ((with_reducible refine SemWp.id ?_); first | refine sem_seq ?_ | refine sem_region rfl ?_ | refine sem_cond rfl ?_ | refine sem_ret ?_) | ((with_reducible refine qThen.id ?_); first | refine qThen.go ?_ | refine qThen.ret ?_) | refine Stp.call ?_ | ((with_reducible refine CallWp.id ?_); first | refine Pur.call (awake_spec) ?_) | ((with_reducible refine BodyR.id ?_); first | refine BodyR.ret ?_) | ((with_reducible refine ResG.id ?_); first | refine ResG.tmp rfl ?_ | refine ResG.nil ?_)
  exact Fin.mk rfl
theorem pb_err (s : ByteArray) (w : Nat) (h : ¬ s.size > 600) (e : Int) (p : Nat) (hl : lexR s = .error (e, p)) : Pur cx 3 [ss s, cc w] (bb true) := by
  have L := Lex_spec s
  have P := Prog_spec s
  have h0 : ¬ e = 0 := lexR_ne0 hl
  rw [show progR s = ([], e, (p : Int)) from by unfold progR; rw [hl]] at P
  rw [hl] at L
  have L : Pur cx 9 [ss s] (.tup [.list .no 3 [], ii e, ii p]) := L
  have P : Pur cx 8 [ss s] (.tup [.agg [LPDs []], ii e, ii p]) := P
  refine Pur.of (sem_calls' cx (fn := Tryd.f3) rfl rfl rfl rfl ?_)
  repeat' first | refine Ops.tag rfl ?_ | ((with_reducible first | refine OpsT.yes ?_); (conv => arg 7; whnf)) | (refine OpsT.go ?_; (conv => arg 7; whnf)) | (with_reducible first | refine Stp.andT ?_) | ((with_reducible refine Stp.isDec ?_); first | refine Stp.decF ?_) | ((with_reducible refine Stp.isEq ?_); first | refine Stp.eqT ?_) | ((with_reducible refine Stp.isNe ?_); first | refine Stp.neT ?_) | refine Stp.pure rfl ?_ | ((with_reducible refine PutK.isSet ?_); refine PutK.set (by repeat first | exact HsetIs.hit) ?_) | refine PutK.mk' rfl ?_ | refine Ops.nil ?_ | ((with_reducible refine Look.id ?_); refine Look.auto ?_ (by repeat first | exact HGet.hit); try (conv => arg 7; whnf)) | ((with_reducible refine Side.id ?_); first | refine Side.auto ?_) | ((with_reducible refine Br.id ?_); first | (with_reducible first | refine br_true rfl ?_ | refine br_false rfl ?_)) | ((with_reducible refine SemWp.id ?_); first | refine sem_seq ?_ | refine sem_region rfl ?_ | refine sem_cond rfl ?_ | refine sem_ret ?_ | refine sem_skip ?_) | ((with_reducible refine qThen.id ?_); first | refine qThen.go ?_ | refine qThen.ret ?_) | refine Stp.look ?_ | refine Stp.call ?_ | refine Stp.eff ?_ | ((with_reducible refine CallWp.id ?_); first | refine Pur.call (awake_spec) ?_ | refine Pur.call (L) ?_ | refine Pur.call (P) ?_ | refine Pur.call (Num_spec _) ?_) | (refine newN (fun r hr => ?_); simp only [keys, List.nil_append, List.cons_append, List.map_cons, List.map_nil, List.mem_cons, List.not_mem_nil, not_or, or_false, not_false_eq_true] at hr) | ((with_reducible refine BodyR.id ?_); first | refine BodyR.ret ?_) | ((with_reducible refine ResG.id ?_); first | refine ResG.tmp rfl ?_ | refine ResG.nil ?_) | ((with_reducible refine Upd.id ?_); first | (refine Upd.lit rfl ?_; (conv => whnf)))
  exact Fin.mk rfl
theorem blankT_le (l : List Tk) (w i : Nat) : ∀ n, (blankT l w i).size ≤ (blankT l w (i + n)).size
  | 0 => Nat.le_refl _
  | n + 1 => by
    have := blankT_le l w i n
    rw [← Nat.add_assoc, blankT]
    simp only [ByteArray.size_append]
    omega
set_option maxHeartbeats 4000000 in
theorem pb_ok (s : ByteArray) (w : Nat) (hw : w < 256) (h : ¬ s.size > 600) (l : List Tk) (hl : lexR s = .ok l) : Pur cx 3 [ss s, cc w] (bb true) := by
  have L := Lex_spec s
  have P := Prog_spec s
  have B := blank_prog hl (by omega) w
  obtain ⟨_, _, _, _, bz⟩ := blank_lex hl (by omega) w
  have Q := Prog_spec (blankT l w l.length)
  have sm := progR_sm s
  have SR := Same_refl (progR s).1 (by omega) sm.2
  have wl := (lexR_wf hl).toWfT.len
  rw [hl] at L
  have L : Pur cx 9 [ss s] (.tup [.list .no 3 (l.map tokD), ii 0, ii 0]) := L
  have m : (l.map tokD).length = l.length := by simp
  unfold progV at P Q
  rw [B.1, B.2] at Q
  have g0 := fun i (hi : i < l.length) => getD_tk hi
  clear B hl sm
  generalize (progR s).1 = ps at *
  generalize (progR s).2.1 = e at *
  generalize (progR s).2.2 = a1 at *
  generalize (progR (blankT l w l.length)).2.2 = a2 at *
  refine Pur.of (sem_calls' cx (fn := Tryd.f3) rfl rfl rfl rfl ?_)
  repeat' first | refine Ops.tag rfl ?_ | (refine OpsT.go ?_; (conv => arg 7; whnf)) | ((with_reducible refine Stp.isDec ?_); first | refine Stp.decF ?_) | ((with_reducible refine Stp.isNe ?_); first | refine Stp.neF ?_) | refine Stp.pure rfl ?_ | ((with_reducible refine PutK.isSet ?_); refine PutK.set (by repeat first | exact HsetIs.hit) ?_) | refine PutK.mk' rfl ?_ | refine Ops.nil ?_ | ((with_reducible refine Look.id ?_); refine Look.auto ?_ (by repeat first | exact HGet.hit); try (conv => arg 7; whnf)) | ((with_reducible refine Side.id ?_); first | refine Side.auto ?_) | ((with_reducible refine Br.id ?_); first | (with_reducible first | refine br_false rfl ?_)) | ((with_reducible refine SemWp.id ?_); first | refine sem_seq ?_ | refine sem_region rfl ?_ | refine sem_cond rfl ?_ | refine sem_block ?_ | refine sem_skip ?_) | ((with_reducible refine qThen.id ?_); first | refine qThen.go ?_) | refine Stp.look ?_ | refine Stp.call ?_ | refine Stp.eff ?_ | ((with_reducible refine CallWp.id ?_); first | refine Pur.call (L) ?_ | refine Pur.call (P) ?_ | refine Pur.call (Num_spec _) ?_) | (refine newN (fun r hr => ?_); simp only [keys, List.nil_append, List.cons_append, List.map_cons, List.map_nil, List.mem_cons, List.not_mem_nil, not_or, or_false, not_false_eq_true] at hr) | ((with_reducible refine Upd.id ?_); first | (refine Upd.lit rfl ?_; (conv => whnf)))
  refine sem_loop cx (ι := Nat) (fun i => i ≤ l.length) (fun i => [(1, .sure, cc w), (5, .sure, .ptr r 0), (6, .sure, ii e), (8, .sure, .list .no 3 (l.map tokD)), (11, .sure, ss (blankT l w i)), (12, .sure, ii i)]) (fun _ => [(r, .cells [LPDs ps] 25)]) (fun i => l.length - i) 0 (Nat.zero_le _) (by repeat' first | exact Sub.nil _ | refine Sub.auto ?_) (Subp.of_eq rfl) ?_
  intro i i1
  by_cases hi : i < l.length
  · have g1 := g0 i hi
    have e1 : blankT l w (i + 1) = blankT l w i ++ gapOf ((i + w) % 4) ++ (tk l i).text := rfl
    have z := blankT_le l w (i + 1) (l.length - (i + 1))
    rw [show i + 1 + (l.length - (i + 1)) = l.length from by omega, e1] at z
    simp only [ByteArray.size_append] at z
    generalize (tk l i).text = tx at *
    generalize (tk l i).kind = kd at *
    generalize (tk l i).pos = po at *
    have tm : ((i : Int) + (w : Int)).tmod 4 = (((i + w) % 4 : Nat) : Int) := by
      rw [Int.tmod_eq_emod_of_nonneg (by omega)]; omega
    have k4 : (i + w) % 4 < 4 := Nat.mod_lt _ (by decide)
    have gk : [HV.v (.string ⟨#[32]⟩), .v (.string ⟨#[10]⟩), .v (.string ⟨#[32, 35, 32, 114, 101, 109, 97, 114, 107, 32, 59, 32, 120, 32, 61, 32, 10]⟩), .v (.string ⟨#[9, 13, 10]⟩)].getD (((i + w) % 4 : Nat) : Int).toNat default = ss (gapOf ((i + w) % 4)) := by
      rw [Int.toNat_natCast]
      match (i + w) % 4, k4 with
      | 0, _ => rfl
      | 1, _ => rfl
      | 2, _ => rfl
      | 3, _ => rfl
    generalize (i + w) % 4 = k at *
    repeat' first | refine Ops.tag rfl ?_ | (refine OpsT.go ?_; (conv => arg 7; whnf)) | ((with_reducible refine Stp.isSum ?_); refine Stp.sum ?_) | ((with_reducible refine Stp.isDec ?_); first | refine Stp.decT ?_) | refine Stp.pure rfl ?_ | refine Ops.nil ?_ | (refine DOps.cons rfl rfl ?_; (conv => arg 7; whnf)) | ((with_reducible refine DStp.isSum ?_); refine DStp.sum ?_) | refine DStp.pure rfl ?_ | refine DOps.nil rfl ?_ | ((with_reducible refine Side.id ?_); first | (refine Side.mk (by simp only [ByteArray.size_append]; omega) ?_) | refine Side.auto ?_) | ((with_reducible refine Br.id ?_); first | (with_reducible first | refine br_true rfl ?_)) | ((with_reducible refine SemWp.id ?_); first | refine sem_seq ?_ | refine sem_region rfl ?_ | refine sem_cond rfl ?_ | refine sem_block ?_ | refine sem_skip ?_ | refine sem_draw ?_) | ((with_reducible refine qThen.id ?_); first | refine qThen.go ?_) | ((with_reducible refine hinBlock.id ?_); first | refine hinBlock.go ?_) | ((with_reducible refine hround.id ?_); first | refine hround.go ?_) | refine DStp.valS ?_ | ((with_reducible refine DrawReg.id ?_); refine drawQ' cx (by decide +kernel) rfl ?_) | rw [g1] | rw [tm] | rw [gk]
    exact Fin.mk ⟨i + 1, by omega, by omega, by repeat' first | exact Sub.nil _ | refine Sub.auto ?_ rfl (by first | rfl | assumption | omega | (rw [e1]; rfl)), Subp.of_eq rfl⟩
  · have : i = l.length := by omega
    subst this
    repeat' first | refine Ops.tag rfl ?_ | ((with_reducible first | refine OpsT.yes ?_); (conv => arg 7; whnf)) | (refine OpsT.go ?_; (conv => arg 7; whnf)) | (with_reducible first | refine Stp.andT ?_) | ((with_reducible refine Stp.isDec ?_); first | refine Stp.decF ?_) | ((with_reducible refine Stp.isEq ?_); first | refine Stp.eqT ?_) | refine Stp.pure rfl ?_ | ((with_reducible refine PutK.isSet ?_); refine PutK.set (by repeat first | exact HsetIs.hit) ?_) | refine PutK.mk' rfl ?_ | refine Ops.nil ?_ | ((with_reducible refine Look.id ?_); refine Look.auto ?_ (by repeat first | exact HGet.hit | apply HGet.miss (by first | assumption)); try (conv => arg 7; whnf)) | ((with_reducible refine Side.id ?_); first | refine Side.auto ?_) | ((with_reducible refine Br.id ?_); first | (with_reducible first | refine br_false rfl ?_)) | ((with_reducible refine SemWp.id ?_); first | refine sem_seq ?_ | refine sem_region rfl ?_ | refine sem_cond rfl ?_ | refine sem_exit ?_ | refine sem_ret ?_) | ((with_reducible refine qThen.id ?_); first | refine qThen.go ?_) | refine Stp.look ?_ | refine Stp.call ?_ | refine Stp.eff ?_ | ((with_reducible refine CallWp.id ?_); first | refine Pur.call (Q) ?_ | refine Pur.call (Num_spec _) ?_ | refine Pur.call (SR) ?_ | refine Pur.call (awake_spec) ?_) | (refine newN (fun r hr => ?_); simp only [keys, List.nil_append, List.cons_append, List.map_cons, List.map_nil, List.mem_cons, List.not_mem_nil, not_or, or_false, not_false_eq_true] at hr) | ((with_reducible refine BodyR.id ?_); first | refine BodyR.ret ?_) | ((with_reducible refine ResG.id ?_); first | refine ResG.tmp rfl ?_ | refine ResG.nil ?_) | ((with_reducible refine Upd.id ?_); first | (refine Upd.lit rfl ?_; (conv => whnf)))
    exact Fin.mk rfl
theorem ParseBlanks_spec (s : ByteArray) (c : Int) (hc : (Lit.int .u8 c).wf = true) : Pur cx 3 [ss s, .v (.int .u8 c)] (bb true) := by
  have hc : 0 ≤ c ∧ c ≤ 255 := by simpa [Lit.wf, IntKind.min, IntKind.max, IntKind.signed, IntKind.bits] using hc
  obtain ⟨w, rfl⟩ : ∃ w : Nat, c = w := ⟨c.toNat, by omega⟩
  have hw : w < 256 := by omega
  by_cases h : s.size > 600
  · exact pb_long s w h
  · cases hl : lexR s with
    | error x => exact pb_err s w h x.1 x.2 hl
    | ok l => exact pb_ok s w hw h l hl
end Go.Proofs.Hk

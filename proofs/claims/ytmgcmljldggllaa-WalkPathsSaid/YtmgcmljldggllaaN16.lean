import Derived.Test.YtmgcmljldggllaaN14

set_option linter.unusedSimpArgs false
set_option linter.unusedVariables false
namespace Go.Proofs.Hk
open Go Go.Proofs

theorem Num_specW (e : Int) : Pur cx 13 [ii e] (ii e) := by
  refine Pur.of (sem_calls' cx (fn := Try.f13) rfl rfl rfl rfl ?_)
  repeat' first | refine Ops.tag rfl ?_ | (refine OpsT.go ?_; (conv => arg 7; whnf)) | refine Stp.pure rfl ?_ | refine Ops.nil ?_ | ((with_reducible refine SemWp.id ?_); first | refine sem_seq ?_ | refine sem_region rfl ?_ | refine sem_ret ?_) | ((with_reducible refine qThen.id ?_); first | refine qThen.go ?_) | ((with_reducible refine BodyR.id ?_); first | refine BodyR.ret ?_) | ((with_reducible refine ResG.id ?_); first | refine ResG.tmp rfl ?_ | refine ResG.nil ?_)
  exact Fin.mk rfl
theorem rSames_spec (l : List GI) (hl : ∀ g ∈ l, g.l.length ≤ 1099511627776) (hn : l.length ≤ 1000000) : Pur cx 22 [LIs l, LIs l] (bb true) := by
  have m : (l.map encI).length = l.length := by simp
  refine Pur.of (sem_calls' cx (fn := Try.f22) rfl rfl rfl rfl ?_)
  repeat' first | refine Ops.tag rfl ?_ | (refine OpsT.go ?_; (conv => arg 7; whnf)) | ((with_reducible refine Stp.isNe ?_); first | refine Stp.neF ?_) | refine Stp.pure rfl ?_ | refine Ops.nil ?_ | ((with_reducible refine Br.id ?_); first | (with_reducible first | refine br_false rfl ?_)) | ((with_reducible refine SemWp.id ?_); first | refine sem_seq ?_ | refine sem_region rfl ?_ | refine sem_cond rfl ?_ | refine sem_block ?_ | refine sem_skip ?_) | ((with_reducible refine qThen.id ?_); first | refine qThen.go ?_)
  refine sem_loop cx (ι := Nat) (fun i => i ≤ l.length) (fun i => [(0, .sure, LIs l), (1, .sure, LIs l), (5, .sure, ii i)]) (fun _ => []) (fun i => l.length - i) 0 (Nat.zero_le _) (by repeat' first | exact Sub.nil _ | refine Sub.auto ?_) (Subp.nil _) ?_
  intro i hi
  by_cases hil : i < l.length
  · have g1 : (l.map encI).getD (i : Int).toNat default = encP (l.getD i gi0).neg (l.getD i gi0).l := getD_int (n := i) rfl hil
    have S := rSame_spec (l.getD i gi0) (l.getD i gi0) (by
      rw [List.getD_eq_getElem?_getD, List.getElem?_eq_getElem hil]
      exact hl _ (List.getElem_mem hil))
    rw [beq_self_eq_true, beq_self_eq_true, Bool.true_and] at S
    repeat' first | refine Ops.tag rfl ?_ | (refine OpsT.go ?_; (conv => arg 7; whnf)) | ((with_reducible refine Stp.isSum ?_); refine Stp.sum ?_) | ((with_reducible refine Stp.isDec ?_); first | refine Stp.decT ?_) | refine Stp.pure rfl ?_ | refine Ops.nil ?_ | (refine DOps.cons rfl rfl ?_; (conv => arg 7; whnf)) | (with_reducible first | refine DStp.notT ?_) | refine DStp.pure rfl ?_ | refine PutD.mk' rfl ?_ | refine DOps.nil rfl ?_ | ((with_reducible refine Side.id ?_); first | refine Side.auto ?_) | ((with_reducible refine Br.id ?_); first | (with_reducible first | refine br_true rfl ?_ | refine br_false rfl ?_)) | ((with_reducible refine SemWp.id ?_); first | refine sem_seq ?_ | refine sem_region rfl ?_ | refine sem_cond rfl ?_ | refine sem_block ?_ | refine sem_skip ?_ | refine sem_draw ?_) | ((with_reducible refine qThen.id ?_); first | refine qThen.go ?_) | ((with_reducible refine hinBlock.id ?_); first | refine hinBlock.go ?_) | ((with_reducible refine hround.id ?_); first | refine hround.go ?_) | refine DStp.valS ?_ | refine DStp.call ?_ | ((with_reducible refine QAsk.id ?_); first | (refine Pur.ask (S) ?_ ?_; focus (intro h; first | exact rfl))) | ((with_reducible refine DrawReg.id ?_); refine drawQ' cx (by decide +kernel) rfl ?_) | rw [g1]
    exact Fin.mk ⟨i + 1, by omega, by omega, by repeat' first | exact Sub.nil _ | refine Sub.auto ?_, Subp.nil _⟩
  · repeat' first | refine Ops.tag rfl ?_ | (refine OpsT.go ?_; (conv => arg 7; whnf)) | ((with_reducible refine Stp.isDec ?_); first | refine Stp.decF ?_) | refine Stp.pure rfl ?_ | refine Ops.nil ?_ | ((with_reducible refine Br.id ?_); first | (with_reducible first | refine br_false rfl ?_)) | ((with_reducible refine SemWp.id ?_); first | refine sem_seq ?_ | refine sem_region rfl ?_ | refine sem_cond rfl ?_ | refine sem_exit ?_ | refine sem_ret ?_) | ((with_reducible refine qThen.id ?_); first | refine qThen.go ?_) | ((with_reducible refine BodyR.id ?_); first | refine BodyR.ret ?_) | ((with_reducible refine ResG.id ?_); first | refine ResG.tmp rfl ?_ | refine ResG.nil ?_)
    exact Fin.mk rfl
def bigI (g : GI) : Bool := decide (40 < g.l.length)
def bigL (l : List GI) : Bool := l.any bigI
theorem any_take {α : Type} {l : List α} {p : α → Bool} {i : Nat} (h : i < l.length) : (l.take (i + 1)).any p = ((l.take i).any p || p l[i]) := by
  rw [List.take_succ_eq_append_getElem h, List.any_append]; simp
theorem any_yes {α : Type} {l : List α} {p : α → Bool} {i : Nat} (h : i < l.length) (hp : p l[i] = true) : l.any p = true :=
  List.any_eq_true.2 ⟨l[i], List.getElem_mem h, hp⟩
theorem getD_eq {α : Type} {l : List α} {d : α} {i : Nat} (h : i < l.length) : l.getD i d = l[i] := by
  rw [List.getD_eq_getElem?_getD, List.getElem?_eq_getElem h]; rfl
theorem Great1_spec (l : List GI) (hn : l.length ≤ 9223372036854775807) : Pur cx 15 [LIs l] (bb (bigL l)) := by
  have m : (l.map encI).length = l.length := by simp
  refine Pur.of (sem_calls' cx (fn := Try.f15) rfl rfl rfl rfl ?_)
  repeat' first | refine Ops.tag rfl ?_ | (refine OpsT.go ?_; (conv => arg 7; whnf)) | refine Stp.pure rfl ?_ | refine Ops.nil ?_ | ((with_reducible refine SemWp.id ?_); first | refine sem_seq ?_ | refine sem_region rfl ?_ | refine sem_block ?_) | ((with_reducible refine qThen.id ?_); first | refine qThen.go ?_)
  refine sem_loop cx (ι := Nat) (fun i => i ≤ l.length ∧ (l.take i).any bigI = false) (fun i => [(0, .sure, LIs l), (3, .sure, ii i)]) (fun _ => []) (fun i => l.length - i) 0 ⟨Nat.zero_le _, rfl⟩ (by repeat' first | exact Sub.nil _ | refine Sub.auto ?_) (Subp.nil _) ?_
  rintro i ⟨i1, i2⟩
  by_cases hil : i < l.length
  · have g1 : (l.map encI).getD (i : Int).toNat default = encP (l.getD i gi0).neg (l.getD i gi0).l := getD_int (n := i) rfl hil
    have t := any_take (p := bigI) hil
    have y := any_yes (p := bigI) hil
    rw [getD_eq hil] at g1
    generalize l[i] = g at *
    have mg : (g.l.map u32).length = g.l.length := by simp
    by_cases hb : 40 < g.l.length
    · repeat' first | refine Ops.tag rfl ?_ | (refine OpsT.go ?_; (conv => arg 7; whnf)) | ((with_reducible refine Stp.isDec ?_); first | refine Stp.decT ?_) | refine Stp.pure rfl ?_ | refine Ops.nil ?_ | ((with_reducible refine Side.id ?_); first | refine Side.auto ?_) | ((with_reducible refine Br.id ?_); first | (with_reducible first | refine br_true rfl ?_)) | ((with_reducible refine SemWp.id ?_); first | refine sem_seq ?_ | refine sem_region rfl ?_ | refine sem_cond rfl ?_ | refine sem_block ?_ | refine sem_ret ?_ | refine sem_skip ?_) | ((with_reducible refine qThen.id ?_); first | refine qThen.go ?_ | refine qThen.ret ?_) | ((with_reducible refine hinBlock.id ?_); first | refine hinBlock.ret ?_) | ((with_reducible refine hround.id ?_); first | refine hround.ret ?_) | refine Stp.valS ?_ | ((with_reducible refine BodyR.id ?_); first | refine BodyR.ret ?_) | ((with_reducible refine ResG.id ?_); first | refine ResG.tmp rfl ?_ | refine ResG.nil ?_) | rw [g1]
      exact Fin.mk (by unfold bigL; rw [y (by simp [bigI, hb])]; rfl)
    · repeat' first | refine Ops.tag rfl ?_ | (refine OpsT.go ?_; (conv => arg 7; whnf)) | ((with_reducible refine Stp.isSum ?_); refine Stp.sum ?_) | ((with_reducible refine Stp.isDec ?_); first | refine Stp.decT ?_ | refine Stp.decF ?_) | refine Stp.pure rfl ?_ | refine Ops.nil ?_ | ((with_reducible refine Side.id ?_); first | refine Side.auto ?_) | ((with_reducible refine Br.id ?_); first | (with_reducible first | refine br_true rfl ?_ | refine br_false rfl ?_)) | ((with_reducible refine SemWp.id ?_); first | refine sem_seq ?_ | refine sem_region rfl ?_ | refine sem_cond rfl ?_ | refine sem_block ?_ | refine sem_skip ?_) | ((with_reducible refine qThen.id ?_); first | refine qThen.go ?_) | ((with_reducible refine hinBlock.id ?_); first | refine hinBlock.go ?_) | ((with_reducible refine hround.id ?_); first | refine hround.go ?_) | refine Stp.valS ?_ | rw [g1]
      exact Fin.mk ⟨i + 1, ⟨by omega, by rw [t, i2]; simp [bigI]; omega⟩, by omega, by repeat' first | exact Sub.nil _ | refine Sub.auto ?_, Subp.nil _⟩
  · have : i = l.length := by omega
    subst this
    rw [List.take_length] at i2
    repeat' first | refine Ops.tag rfl ?_ | (refine OpsT.go ?_; (conv => arg 7; whnf)) | ((with_reducible refine Stp.isDec ?_); first | refine Stp.decF ?_) | refine Stp.pure rfl ?_ | refine Ops.nil ?_ | ((with_reducible refine Br.id ?_); first | (with_reducible first | refine br_false rfl ?_)) | ((with_reducible refine SemWp.id ?_); first | refine sem_seq ?_ | refine sem_region rfl ?_ | refine sem_cond rfl ?_ | refine sem_exit ?_ | refine sem_ret ?_) | ((with_reducible refine qThen.id ?_); first | refine qThen.go ?_) | ((with_reducible refine BodyR.id ?_); first | refine BodyR.ret ?_) | ((with_reducible refine ResG.id ?_); first | refine ResG.tmp rfl ?_ | refine ResG.nil ?_)
    exact Fin.mk (by unfold bigL; rw [i2]; rfl)
def bigA (a : GA) : Bool := decide (60 < a.x.length) || decide (60 < a.w.length) || bigI a.k || bigL a.x || bigL a.w
def bigAs (l : List GA) : Bool := l.any bigA
structure LenA (a : GA) : Prop where
  x : a.x.length ≤ 9223372036854775807
  w : a.w.length ≤ 9223372036854775807
set_option maxHeartbeats 1000000 in
theorem deep_spec (l : List GA) (hl : ∀ a ∈ l, LenA a) (hn : l.length ≤ 9223372036854775807) : Pur cx 40 [LAs l] (bb (bigAs l)) := by
  have m : (l.map encA).length = l.length := by simp
  refine Pur.of (sem_calls' cx (fn := Try.f40) rfl rfl rfl rfl ?_)
  repeat' first | refine Ops.tag rfl ?_ | (refine OpsT.go ?_; (conv => arg 7; whnf)) | refine Stp.pure rfl ?_ | refine Ops.nil ?_ | ((with_reducible refine SemWp.id ?_); first | refine sem_seq ?_ | refine sem_region rfl ?_ | refine sem_block ?_) | ((with_reducible refine qThen.id ?_); first | refine qThen.go ?_)
  refine sem_loop cx (ι := Nat) (fun i => i ≤ l.length ∧ (l.take i).any bigA = false) (fun i => [(0, .sure, LAs l), (3, .sure, ii i)]) (fun _ => []) (fun i => l.length - i) 0 ⟨Nat.zero_le _, rfl⟩ (by repeat' first | exact Sub.nil _ | refine Sub.auto ?_) (Subp.nil _) ?_
  rintro i ⟨i1, i2⟩
  by_cases hil : i < l.length
  · have g1 := getD_aff (l := l) (k := i) (n := i) rfl hil
    have t := any_take (p := bigA) hil
    have y := any_yes (p := bigA) hil
    have hlen := hl _ (List.getElem_mem hil)
    rw [getD_eq hil] at g1
    generalize l[i] = a at *
    have mx : (a.x.map encI).length = a.x.length := by simp
    have mw : (a.w.map encI).length = a.w.length := by simp
    have Gk := (Great1_spec [a.k] (by simp)).args (ys := [.list .full 2 [encP a.k.neg a.k.l]]) (.cons (Weaker.tok _ _ _) .nil)
    have Gx := Great1_spec a.x hlen.x
    have Gw := Great1_spec a.w hlen.w
    have ek : bigL [a.k] = bigI a.k := by simp [bigL]
    rw [ek] at Gk
    have eb : bigA a = (decide (60 < a.x.length) || decide (60 < a.w.length) || bigI a.k || bigL a.x || bigL a.w) := rfl
    have yes : bigA a = true → Fin (HEnd.ret (tupOf [HV.v (.bool true)]) = HEnd.ret (bb (bigAs l))) := fun h => Fin.mk (by unfold bigAs; rw [y h]; rfl)
    clear y
    by_cases h1 : 60 < a.x.length
    · have hy : bigA a = true := by rw [eb, decide_eq_true h1]; rfl
      clear eb t
      repeat' first | refine Ops.tag rfl ?_ | (with_reducible first | refine OpsT.no' ?_) | (refine OpsT.go ?_; (conv => arg 7; whnf)) | (with_reducible first | refine Stp.orT ?_) | ((with_reducible refine Stp.isDec ?_); first | refine Stp.decT ?_) | refine Stp.pure rfl ?_ | refine PutK.mk' rfl ?_ | refine Ops.nil ?_ | ((with_reducible refine Side.id ?_); first | refine Side.auto ?_) | ((with_reducible refine Br.id ?_); first | (with_reducible first | refine br_true rfl ?_)) | ((with_reducible refine SemWp.id ?_); first | refine sem_seq ?_ | refine sem_region rfl ?_ | refine sem_cond rfl ?_ | refine sem_block ?_ | refine sem_ret ?_ | refine sem_skip ?_) | ((with_reducible refine qThen.id ?_); first | refine qThen.go ?_ | refine qThen.ret ?_) | ((with_reducible refine hinBlock.id ?_); first | refine hinBlock.ret ?_) | ((with_reducible refine hround.id ?_); first | refine hround.ret ?_) | refine Stp.valS ?_ | ((with_reducible refine BodyR.id ?_); first | refine BodyR.ret ?_) | ((with_reducible refine ResG.id ?_); first | refine ResG.tmp rfl ?_ | refine ResG.nil ?_) | rw [g1]
      exact yes hy
    · rw [decide_eq_false h1, Bool.false_or] at eb
      by_cases h2 : 60 < a.w.length
      · have hy : bigA a = true := by rw [eb, decide_eq_true h2]; rfl
        clear eb t
        repeat' first | refine Ops.tag rfl ?_ | ((with_reducible first | refine OpsT.yes' ?_); (conv => arg 7; whnf)) | (with_reducible first | refine OpsT.no' ?_) | (refine OpsT.go ?_; (conv => arg 7; whnf)) | (with_reducible first | refine Stp.orF ?_ | refine Stp.orT ?_) | ((with_reducible refine Stp.isDec ?_); first | refine Stp.decT ?_ | refine Stp.decF ?_) | refine Stp.pure rfl ?_ | refine PutK.mk' rfl ?_ | refine Ops.nil ?_ | ((with_reducible refine Side.id ?_); first | refine Side.auto ?_) | ((with_reducible refine Br.id ?_); first | (with_reducible first | refine br_true rfl ?_)) | ((with_reducible refine SemWp.id ?_); first | refine sem_seq ?_ | refine sem_region rfl ?_ | refine sem_cond rfl ?_ | refine sem_block ?_ | refine sem_ret ?_ | refine sem_skip ?_) | ((with_reducible refine qThen.id ?_); first | refine qThen.go ?_ | refine qThen.ret ?_) | ((with_reducible refine hinBlock.id ?_); first | refine hinBlock.ret ?_) | ((with_reducible refine hround.id ?_); first | refine hround.ret ?_) | refine Stp.valS ?_ | ((with_reducible refine BodyR.id ?_); first | refine BodyR.ret ?_) | ((with_reducible refine ResG.id ?_); first | refine ResG.tmp rfl ?_ | refine ResG.nil ?_) | rw [g1]
        exact yes hy
      · rw [decide_eq_false h2, Bool.false_or] at eb
        generalize bigI a.k = b1 at *
        generalize bigL a.x = b2 at *
        generalize bigL a.w = b3 at *
        cases b1 <;> cases b2 <;> cases b3
        case false.false.false =>
          have tn : (l.take (i + 1)).any bigA = false := by rw [t, i2, eb]; rfl
          clear eb t yes
          repeat' first | refine Ops.tag rfl ?_ | ((with_reducible first | refine OpsT.yes' ?_); (conv => arg 7; whnf)) | (refine OpsT.go ?_; (conv => arg 7; whnf)) | (with_reducible first | refine Stp.orF ?_) | ((with_reducible refine Stp.isSum ?_); refine Stp.sum ?_) | ((with_reducible refine Stp.isDec ?_); first | refine Stp.decT ?_ | refine Stp.decF ?_) | refine Stp.pure rfl ?_ | refine PutK.mk' rfl ?_ | refine Ops.nil ?_ | ((with_reducible refine Side.id ?_); first | refine Side.auto ?_) | ((with_reducible refine Br.id ?_); first | (with_reducible first | refine br_true rfl ?_ | refine br_false rfl ?_)) | ((with_reducible refine SemWp.id ?_); first | refine sem_seq ?_ | refine sem_region rfl ?_ | refine sem_cond rfl ?_ | refine sem_block ?_ | refine sem_skip ?_) | ((with_reducible refine qThen.id ?_); first | refine qThen.go ?_) | ((with_reducible refine hinBlock.id ?_); first | refine hinBlock.go ?_) | ((with_reducible refine hround.id ?_); first | refine hround.go ?_) | refine Stp.valS ?_ | refine Stp.call ?_ | ((with_reducible refine CallWp.id ?_); first | refine Pur.call (Gk) ?_ | refine Pur.call (Gx) ?_ | refine Pur.call (Gw) ?_) | rw [g1]
          exact Fin.mk ⟨i + 1, ⟨by omega, tn⟩, by omega, by repeat' first | exact Sub.nil _ | refine Sub.auto ?_, Subp.nil _⟩
        all_goals
          have hy : bigA a = true := eb
          clear eb t
          repeat' first | refine Ops.tag rfl ?_ | ((with_reducible first | refine OpsT.yes' ?_); (conv => arg 7; whnf)) | (with_reducible first | refine OpsT.no' ?_) | (refine OpsT.go ?_; (conv => arg 7; whnf)) | (with_reducible first | refine Stp.orF ?_ | refine Stp.orT ?_) | ((with_reducible refine Stp.isDec ?_); first | refine Stp.decT ?_ | refine Stp.decF ?_) | refine Stp.pure rfl ?_ | refine PutK.mk' rfl ?_ | refine Ops.nil ?_ | ((with_reducible refine Side.id ?_); first | refine Side.auto ?_) | ((with_reducible refine Br.id ?_); first | (with_reducible first | refine br_true rfl ?_)) | ((with_reducible refine SemWp.id ?_); first | refine sem_seq ?_ | refine sem_region rfl ?_ | refine sem_cond rfl ?_ | refine sem_block ?_ | refine sem_ret ?_ | refine sem_skip ?_) | ((with_reducible refine qThen.id ?_); first | refine qThen.go ?_ | refine qThen.ret ?_) | ((with_reducible refine hinBlock.id ?_); first | refine hinBlock.ret ?_) | ((with_reducible refine hround.id ?_); first | refine hround.ret ?_) | refine Stp.valS ?_ | refine Stp.call ?_ | ((with_reducible refine CallWp.id ?_); first | refine Pur.call (Gk) ?_ | refine Pur.call (Gx) ?_ | refine Pur.call (Gw) ?_) | ((with_reducible refine BodyR.id ?_); first | refine BodyR.ret ?_) | ((with_reducible refine ResG.id ?_); first | refine ResG.tmp rfl ?_ | refine ResG.nil ?_) | rw [g1]
          exact yes hy
  · have : i = l.length := by omega
    subst this
    rw [List.take_length] at i2
    repeat' first | refine Ops.tag rfl ?_ | (refine OpsT.go ?_; (conv => arg 7; whnf)) | ((with_reducible refine Stp.isDec ?_); first | refine Stp.decF ?_) | refine Stp.pure rfl ?_ | refine Ops.nil ?_ | ((with_reducible refine Br.id ?_); first | (with_reducible first | refine br_false rfl ?_)) | ((with_reducible refine SemWp.id ?_); first | refine sem_seq ?_ | refine sem_region rfl ?_ | refine sem_cond rfl ?_ | refine sem_exit ?_ | refine sem_ret ?_) | ((with_reducible refine qThen.id ?_); first | refine qThen.go ?_) | ((with_reducible refine BodyR.id ?_); first | refine BodyR.ret ?_) | ((with_reducible refine ResG.id ?_); first | refine ResG.tmp rfl ?_ | refine ResG.nil ?_)
    exact Fin.mk (by unfold bigAs; rw [i2]; rfl)
end Go.Proofs.Hk

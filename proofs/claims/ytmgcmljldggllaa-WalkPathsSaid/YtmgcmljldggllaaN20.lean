import Derived.Test.YtmgcmljldggllaaN16
set_option linter.unusedSimpArgs false
set_option linter.unusedVariables false
namespace Go.Proofs.Hk
open Go Go.Proofs

/-- The first place of a list at which something holds; -1: none. -/
def idxB {α : Type} (p : α → Bool) (l : List α) : Int := if l.any p = true then (l.findIdx p : Nat) else -1
theorem take_any {α : Type} {l : List α} {p : α → Bool} {i : Nat} (h : (l.take i).any p = false) : ∀ j, j < i → ∀ hj : j < l.length, p l[j] = false := fun j hji hj => by
  rw [List.any_eq_false] at h
  have : l[j] ∈ l.take i := by
    rw [List.mem_take_iff_getElem]
    exact ⟨j, by omega, rfl⟩
  simpa using h _ this
theorem idx_at {α : Type} {l : List α} {p : α → Bool} {i : Nat} (hi : i < l.length) (h : (l.take i).any p = false) (hp : p l[i] = true) : idxB p l = i := by
  unfold idxB
  rw [if_pos (any_yes hi hp), (List.findIdx_eq hi).2 ⟨hp, fun j hj => take_any h j hj (by omega)⟩]
theorem idx_no {α : Type} {l : List α} {p : α → Bool} (h : l.any p = false) : idxB p l = -1 := by
  unfold idxB; rw [h]; rfl
theorem idx_ge {α : Type} {l : List α} {p : α → Bool} : decide (0 ≤ idxB p l) = l.any p := by
  unfold idxB
  cases l.any p with
  | false => rfl
  | true => simp
def noM (g : GI) : Bool := !g.may
theorem notMay_spec (g : GI) (hg : g.Ok) : Pur cx 79 [encI g] (bb (noM g)) := by
  have M := May_spec g hg
  change Pur cx _ [encP g.neg g.l] _
  refine Pur.of (sem_calls' cx (fn := Try.f79) rfl rfl rfl rfl ?_)
  have M : Pur cx 71 [encP g.neg g.l] (bb g.may) := M
  repeat' first | refine Ops.tag rfl ?_ | (refine OpsT.go ?_; (conv => arg 7; whnf)) | refine Stp.pure rfl ?_ | refine PutK.mk' rfl ?_ | refine Ops.nil ?_ | ((with_reducible refine Look.id ?_); refine Look.auto ?_ (by repeat first | exact HGet.hit); try (conv => arg 7; whnf)) | ((with_reducible refine Side.id ?_); first | refine Side.auto ?_) | ((with_reducible refine SemWp.id ?_); first | refine sem_seq ?_ | refine sem_region rfl ?_ | refine sem_ret ?_) | ((with_reducible refine qThen.id ?_); first | refine qThen.go ?_) | refine Stp.look ?_ | refine Stp.call ?_ | refine Stp.eff ?_ | ((with_reducible refine CallWp.id ?_); first | refine Pur.call (M) ?_) | (refine newN (fun r hr => ?_); simp only [keys, List.nil_append, List.cons_append, List.map_cons, List.map_nil, List.mem_cons, List.not_mem_nil, not_or, or_false, not_false_eq_true] at hr) | ((with_reducible refine BodyR.id ?_); first | refine BodyR.ret ?_) | ((with_reducible refine ResG.id ?_); first | refine ResG.tmp rfl ?_ | refine ResG.nil ?_)
  exact Fin.mk rfl
set_option maxHeartbeats 1000000 in
theorem idxMay_spec (l : List GI) (hl : ∀ g ∈ l, g.Ok) (hn : l.length ≤ 9223372036854775807) : Pur cx 83 [LIs l, .fn (.func 79) [] []] (ii (idxB noM l)) := by
  have m : (l.map encI).length = l.length := by simp
  refine Pur.of (sem_calls' cx (fn := Try.f83) rfl rfl rfl rfl ?_)
  repeat' first | refine Ops.tag rfl ?_ | (refine OpsT.go ?_; (conv => arg 7; whnf)) | refine Stp.pure rfl ?_ | refine Ops.nil ?_ | ((with_reducible refine SemWp.id ?_); first | refine sem_seq ?_ | refine sem_region rfl ?_ | refine sem_block ?_) | ((with_reducible refine qThen.id ?_); first | refine qThen.go ?_)
  refine sem_loop cx (ι := Nat) (fun i => i ≤ l.length ∧ (l.take i).any noM = false) (fun i => [(0, .sure, LIs l), (1, .sure, .fn (.func 79) [] []), (7, .sure, ii l.length), (8, .sure, ii i)]) (fun _ => []) (fun i => l.length - i) 0 ⟨Nat.zero_le _, rfl⟩ (by repeat' first | exact Sub.nil _ | refine Sub.auto ?_) (Subp.nil _) ?_
  rintro i ⟨i1, i2⟩
  by_cases hil : i < l.length
  · have g1 : (l.map encI).getD (i : Int).toNat default = encI (l.getD i gi0) := getD_int (n := i) rfl hil
    have t := any_take (p := noM) hil
    have y := fun h => idx_at (p := noM) hil i2 h
    rw [getD_eq hil] at g1
    have M := notMay_spec l[i] (hl _ (List.getElem_mem hil))
    generalize l[i] = g at *
    cases hb : noM g with
    | true =>
      rw [hb] at M
      have e := y hb
      clear y t hb
      repeat' first | refine Ops.tag rfl ?_ | (refine OpsT.go ?_; (conv => arg 7; whnf)) | ((with_reducible refine Stp.isDec ?_); first | refine Stp.decT ?_) | refine Stp.pure rfl ?_ | refine PutK.mk' rfl ?_ | refine Ops.nil ?_ | ((with_reducible refine Side.id ?_); first | refine Side.auto ?_) | ((with_reducible refine Br.id ?_); first | (with_reducible first | refine br_true rfl ?_)) | ((with_reducible refine SemWp.id ?_); first | refine sem_seq ?_ | refine sem_region rfl ?_ | refine sem_cond rfl ?_ | refine sem_block ?_ | refine sem_ret ?_ | refine sem_skip ?_) | ((with_reducible refine qThen.id ?_); first | refine qThen.go ?_ | refine qThen.ret ?_) | ((with_reducible refine hinBlock.id ?_); first | refine hinBlock.ret ?_) | ((with_reducible refine hround.id ?_); first | refine hround.ret ?_) | refine Stp.valS ?_ | refine Stp.call ?_ | ((with_reducible refine CallWp.id ?_); first | refine Pur.call (M) ?_) | ((with_reducible refine BodyR.id ?_); first | refine BodyR.ret ?_) | ((with_reducible refine ResG.id ?_); first | refine ResG.tmp rfl ?_ | refine ResG.nil ?_) | rw [g1]
      exact Fin.mk (by rw [e]; rfl)
    | false =>
      rw [hb] at M
      have tn : (l.take (i + 1)).any noM = false := by rw [t, i2, hb]; rfl
      clear y t hb
      repeat' first | refine Ops.tag rfl ?_ | (refine OpsT.go ?_; (conv => arg 7; whnf)) | ((with_reducible refine Stp.isSum ?_); refine Stp.sum ?_) | ((with_reducible refine Stp.isDec ?_); first | refine Stp.decT ?_) | refine Stp.pure rfl ?_ | refine PutK.mk' rfl ?_ | refine Ops.nil ?_ | ((with_reducible refine Side.id ?_); first | refine Side.auto ?_) | ((with_reducible refine Br.id ?_); first | (with_reducible first | refine br_true rfl ?_ | refine br_false rfl ?_)) | ((with_reducible refine SemWp.id ?_); first | refine sem_seq ?_ | refine sem_region rfl ?_ | refine sem_cond rfl ?_ | refine sem_block ?_ | refine sem_skip ?_) | ((with_reducible refine qThen.id ?_); first | refine qThen.go ?_) | ((with_reducible refine hinBlock.id ?_); first | refine hinBlock.go ?_) | ((with_reducible refine hround.id ?_); first | refine hround.go ?_) | refine Stp.valS ?_ | refine Stp.call ?_ | ((with_reducible refine CallWp.id ?_); first | refine Pur.call (M) ?_) | rw [g1]
      exact Fin.mk ⟨i + 1, ⟨by omega, tn⟩, by omega, by repeat' first | exact Sub.nil _ | refine Sub.auto ?_, Subp.nil _⟩
  · have : i = l.length := by omega
    subst this
    rw [List.take_length] at i2
    have e := idx_no i2
    clear i2
    repeat' first | refine Ops.tag rfl ?_ | (refine OpsT.go ?_; (conv => arg 7; whnf)) | ((with_reducible refine Stp.isDec ?_); first | refine Stp.decF ?_) | refine Stp.pure rfl ?_ | refine Ops.nil ?_ | ((with_reducible refine Br.id ?_); first | (with_reducible first | refine br_false rfl ?_)) | ((with_reducible refine SemWp.id ?_); first | refine sem_seq ?_ | refine sem_region rfl ?_ | refine sem_cond rfl ?_ | refine sem_exit ?_ | refine sem_ret ?_) | ((with_reducible refine qThen.id ?_); first | refine qThen.go ?_) | ((with_reducible refine BodyR.id ?_); first | refine BodyR.ret ?_) | ((with_reducible refine ResG.id ?_); first | refine ResG.tmp rfl ?_ | refine ResG.nil ?_)
    exact Fin.mk (by rw [e]; rfl)
theorem anyMay_spec (l : List GI) (hl : ∀ g ∈ l, g.Ok) (hn : l.length ≤ 9223372036854775807) : Pur cx 78 [LIs l, .fn (.func 79) [] []] (bb (l.any noM)) := by
  have M := idxMay_spec l hl hn
  refine Pur.of (sem_calls' cx (fn := Try.f78) rfl rfl rfl rfl ?_)
  repeat' first | refine Ops.tag rfl ?_ | (refine OpsT.go ?_; (conv => arg 7; whnf)) | refine Stp.pure rfl ?_ | refine PutK.mk' rfl ?_ | refine Ops.nil ?_ | ((with_reducible refine Side.id ?_); first | refine Side.auto ?_) | ((with_reducible refine SemWp.id ?_); first | refine sem_seq ?_ | refine sem_region rfl ?_ | refine sem_ret ?_) | ((with_reducible refine qThen.id ?_); first | refine qThen.go ?_) | refine Stp.call ?_ | ((with_reducible refine CallWp.id ?_); first | refine Pur.call (M) ?_) | ((with_reducible refine BodyR.id ?_); first | refine BodyR.ret ?_) | ((with_reducible refine ResG.id ?_); first | refine ResG.tmp rfl ?_ | refine ResG.nil ?_)
  exact Fin.mk (by rw [← idx_ge (p := noM)]; rfl)
def okL (l : List GI) (n : Int) : Bool := decide ((l.length : Int) = n) && !l.any noM
theorem okL_spec (l : List GI) (n : Int) (hl : ∀ g ∈ l, g.Ok) (hn : l.length ≤ 9223372036854775807) : Pur cx 77 [LIs l, ii n] (bb (okL l n)) := by
  have M := anyMay_spec l hl hn
  have m : (l.map encI).length = l.length := by simp
  refine Pur.of (sem_calls' cx (fn := Try.f77) rfl rfl rfl rfl ?_)
  by_cases h : (l.length : Int) = n
  · repeat' first | refine Ops.tag rfl ?_ | ((with_reducible first | refine OpsT.yes ?_); (conv => arg 7; whnf)) | (refine OpsT.go ?_; (conv => arg 7; whnf)) | (with_reducible first | refine Stp.andT ?_) | ((with_reducible refine Stp.isEq ?_); first | refine Stp.eqT ?_) | refine Stp.pure rfl ?_ | refine PutK.mk' rfl ?_ | refine Ops.nil ?_ | ((with_reducible refine Side.id ?_); first | refine Side.auto ?_) | ((with_reducible refine SemWp.id ?_); first | refine sem_seq ?_ | refine sem_region rfl ?_ | refine sem_ret ?_) | ((with_reducible refine qThen.id ?_); first | refine qThen.go ?_) | refine Stp.call ?_ | ((with_reducible refine CallWp.id ?_); first | refine Pur.call (M) ?_) | ((with_reducible refine BodyR.id ?_); first | refine BodyR.ret ?_) | ((with_reducible refine ResG.id ?_); first | refine ResG.tmp rfl ?_ | refine ResG.nil ?_)
    exact Fin.mk (by unfold okL; rw [decide_eq_true h, Bool.true_and]; rfl)
  · repeat' first | refine Ops.tag rfl ?_ | (with_reducible first | refine OpsT.no ?_) | (refine OpsT.go ?_; (conv => arg 7; whnf)) | (with_reducible first | refine Stp.andF ?_) | ((with_reducible refine Stp.isEq ?_); first | refine Stp.eqF ?_) | refine Stp.pure rfl ?_ | refine PutK.mk' rfl ?_ | refine Ops.nil ?_ | ((with_reducible refine Side.id ?_); first | refine Side.auto ?_) | ((with_reducible refine SemWp.id ?_); first | refine sem_seq ?_ | refine sem_region rfl ?_ | refine sem_ret ?_) | ((with_reducible refine qThen.id ?_); first | refine qThen.go ?_) | refine Stp.valS ?_ | ((with_reducible refine BodyR.id ?_); first | refine BodyR.ret ?_) | ((with_reducible refine ResG.id ?_); first | refine ResG.tmp rfl ?_ | refine ResG.nil ?_)
    exact Fin.mk (by unfold okL; rw [decide_eq_false h]; rfl)
def badA (n m : Int) (a : GA) : Bool := !okL a.x n || !okL a.w m || !a.k.may
/-- The state that the closure sees. -/
def affS (p q r : Nat) (n m : Int) : HS := [(p, .cells [.fn (.func 77) [] []] 117), (q, .cells [ii n] 3), (r, .cells [ii m] 3)]
theorem HCalls.sub {P : Program} {f : FuncId} {xs : List HV} {s S : HS} {v : HV} (h : HCalls P f xs s fun e st => e = .ret v ∧ Subp S st) : HCalls P f xs s fun e st => e = .ret v ∧ st = S :=
  HCalls.weaken h fun e s1 ⟨h1, h2⟩ => ⟨.ret v, S, h1 ▸ .ret (Weaker.refl v), h2, rfl, rfl⟩
theorem badA_spec (p q r : Nat) (hpq : p ≠ q) (hpr : p ≠ r) (hqr : q ≠ r) (n m : Int) (a : GA) (ha : SmA a) :
    HCalls cx.P 81 [encA a, .ptr p 0, .ptr q 0, .ptr r 0] (affS p q r n m) fun e st => e = .ret (bb (badA n m a)) ∧ st = affS p q r n m := by
  have X := okL_spec a.x n (fun g hg => (ha.x g hg).ok) (by have := ha.lx; omega)
  have W := okL_spec a.w m (fun g hg => (ha.w g hg).ok) (by have := ha.lw; omega)
  have K := May_spec a.k ha.k.ok
  obtain ⟨x, w, ⟨kn, kl⟩⟩ := a
  have K : Pur cx 71 [encP kn kl] (bb (GI.mk kn kl).may) := K
  have eb : badA n m ⟨x, w, ⟨kn, kl⟩⟩ = (!okL x n || !okL w m || !(GI.mk kn kl).may) := rfl
  rw [eb]
  change HCalls cx.P _ [encA' x w kn kl, _, _, _] _ _
  unfold affS
  refine HCalls.sub (sem_calls' cx (fn := Try.f81) rfl rfl rfl rfl ?_)
  generalize okL x n = b1 at *
  generalize okL w m = b2 at *
  generalize (GI.mk kn kl).may = b3 at *
  cases b1 <;> cases b2 <;> cases b3
  all_goals
    repeat' first | refine Ops.tag rfl ?_ | ((with_reducible first | refine OpsT.yes' ?_); (conv => arg 7; whnf)) | (with_reducible first | refine OpsT.no' ?_) | (refine OpsT.go ?_; (conv => arg 7; whnf)) | (with_reducible first | refine Stp.orF ?_ | refine Stp.orT ?_ | refine Stp.notT ?_ | refine Stp.notF ?_) | refine Stp.pure rfl ?_ | refine PutK.mk' rfl ?_ | refine Ops.nil ?_ | ((with_reducible refine Look.id ?_); refine Look.auto ?_ (by repeat first | exact HGet.hit | apply HGet.miss (by omega)); try (conv => arg 7; whnf)) | ((with_reducible refine Side.id ?_); first | refine Side.auto ?_) | ((with_reducible refine SemWp.id ?_); first | refine sem_seq ?_ | refine sem_region rfl ?_ | refine sem_ret ?_) | ((with_reducible refine qThen.id ?_); first | refine qThen.go ?_) | refine Stp.valS ?_ | refine Stp.look ?_ | refine Stp.call ?_ | refine Stp.eff ?_ | ((with_reducible refine CallWp.id ?_); first | refine Pur.call (X) ?_ | refine Pur.call (W) ?_ | refine Pur.call (K) ?_) | (refine newN (fun r hr => ?_); simp only [keys, List.nil_append, List.cons_append, List.map_cons, List.map_nil, List.mem_cons, List.not_mem_nil, not_or, or_false, not_false_eq_true] at hr) | ((with_reducible refine BodyR.id ?_); first | refine BodyR.ret ?_) | ((with_reducible refine ResG.id ?_); first | refine ResG.tmp rfl ?_ | refine ResG.nil ?_)
  all_goals
    refine Fin.mk ⟨rfl, Subp.take (t := ?_) ?_⟩
    rotate_left
    (repeat first | exact HTake.nil | (apply HTake.cons; focus (repeat first | exact HPick.hit | apply HPick.miss)))
set_option maxHeartbeats 1000000 in
theorem idxA_spec (p q r : Nat) (hpq : p ≠ q) (hpr : p ≠ r) (hqr : q ≠ r) (n m : Int) (l : List GA) (hl : ∀ a ∈ l, SmA a) (hn : l.length ≤ 9223372036854775807) :
    HCalls cx.P 84 [LAs l, .fn (.func 81) [] [.ptr p 0, .ptr q 0, .ptr r 0]] (affS p q r n m) fun e st => e = .ret (ii (idxB (badA n m) l)) ∧ st = affS p q r n m := by
  have len : (l.map encA).length = l.length := by simp
  have B := fun a (ha : SmA a) => badA_spec p q r hpq hpr hqr n m a ha
  unfold affS at *
  refine HCalls.sub (sem_calls' cx (fn := Try.f84) rfl rfl rfl rfl ?_)
  repeat' first | refine Ops.tag rfl ?_ | (refine OpsT.go ?_; (conv => arg 7; whnf)) | refine Stp.pure rfl ?_ | refine Ops.nil ?_ | ((with_reducible refine SemWp.id ?_); first | refine sem_seq ?_ | refine sem_region rfl ?_ | refine sem_block ?_) | ((with_reducible refine qThen.id ?_); first | refine qThen.go ?_)
  refine sem_loop cx (ι := Nat) (fun i => i ≤ l.length ∧ (l.take i).any (badA n m) = false) (fun i => [(0, .sure, LAs l), (1, .sure, .fn (.func 81) [] [.ptr p 0, .ptr q 0, .ptr r 0]), (7, .sure, ii l.length), (8, .sure, ii i)]) (fun _ => [(p, .cells [.fn (.func 77) [] []] 117), (q, .cells [ii n] 3), (r, .cells [ii m] 3)]) (fun i => l.length - i) 0 ⟨Nat.zero_le _, rfl⟩ (by repeat' first | exact Sub.nil _ | refine Sub.auto ?_) (Subp.of_eq rfl) ?_
  rintro i ⟨i1, i2⟩
  by_cases hil : i < l.length
  · have g1 : (l.map encA).getD (i : Int).toNat default = encA (l.getD i ga0) := getD_aff (n := i) rfl hil
    have t := any_take (p := badA n m) hil
    have y := fun h => idx_at (p := badA n m) hil i2 h
    rw [getD_eq hil] at g1
    have C := B l[i] (hl _ (List.getElem_mem hil))
    clear B
    generalize l[i] = a at *
    obtain ⟨x, w, ⟨kn, kl⟩⟩ := a
    change _ = encA' x w kn kl at g1
    change HCalls cx.P _ [encA' x w kn kl, _, _, _] _ _ at C
    cases hb : badA n m ⟨x, w, ⟨kn, kl⟩⟩ with
    | true =>
      rw [hb] at C
      have e := y hb
      clear y t hb
      repeat' first | refine Ops.tag rfl ?_ | (refine OpsT.go ?_; (conv => arg 7; whnf)) | ((with_reducible refine Stp.isDec ?_); first | refine Stp.decT ?_) | refine Stp.pure rfl ?_ | refine PutK.mk' rfl ?_ | refine Ops.nil ?_ | ((with_reducible refine Side.id ?_); first | refine Side.auto ?_) | ((with_reducible refine Br.id ?_); first | (with_reducible first | refine br_true rfl ?_)) | ((with_reducible refine SemWp.id ?_); first | refine sem_seq ?_ | refine sem_region rfl ?_ | refine sem_cond rfl ?_ | refine sem_block ?_ | refine sem_ret ?_ | refine sem_skip ?_) | ((with_reducible refine qThen.id ?_); first | refine qThen.go ?_ | refine qThen.ret ?_) | ((with_reducible refine hinBlock.id ?_); first | refine hinBlock.ret ?_) | ((with_reducible refine hround.id ?_); first | refine hround.ret ?_) | refine Stp.valS ?_ | refine Stp.call ?_ | ((with_reducible refine CallWp.id ?_); first | (refine callT cx (C) (by repeat first | exact HTake.nil | (apply HTake.cons; focus (repeat first | exact HPick.hit))) ?_; (conv => whnf))) | ((with_reducible refine BodyR.id ?_); first | refine BodyR.ret ?_) | ((with_reducible refine ResG.id ?_); first | refine ResG.tmp rfl ?_ | refine ResG.nil ?_) | rw [g1]
      refine Fin.mk ⟨by rw [e]; rfl, Subp.take (t := ?_) ?_⟩
      rotate_left
      (repeat first | exact HTake.nil | (apply HTake.cons; focus (repeat first | exact HPick.hit | apply HPick.miss)))
    | false =>
      rw [hb] at C
      have tn : (l.take (i + 1)).any (badA n m) = false := by rw [t, i2, hb]; rfl
      clear y t hb
      repeat' first | refine Ops.tag rfl ?_ | (refine OpsT.go ?_; (conv => arg 7; whnf)) | ((with_reducible refine Stp.isSum ?_); refine Stp.sum ?_) | ((with_reducible refine Stp.isDec ?_); first | refine Stp.decT ?_) | refine Stp.pure rfl ?_ | refine PutK.mk' rfl ?_ | refine Ops.nil ?_ | ((with_reducible refine Side.id ?_); first | refine Side.auto ?_) | ((with_reducible refine Br.id ?_); first | (with_reducible first | refine br_true rfl ?_ | refine br_false rfl ?_)) | ((with_reducible refine SemWp.id ?_); first | refine sem_seq ?_ | refine sem_region rfl ?_ | refine sem_cond rfl ?_ | refine sem_block ?_ | refine sem_skip ?_) | ((with_reducible refine qThen.id ?_); first | refine qThen.go ?_) | ((with_reducible refine hinBlock.id ?_); first | refine hinBlock.go ?_) | ((with_reducible refine hround.id ?_); first | refine hround.go ?_) | refine Stp.valS ?_ | refine Stp.call ?_ | ((with_reducible refine CallWp.id ?_); first | (refine callT cx (C) (by repeat first | exact HTake.nil | (apply HTake.cons; focus (repeat first | exact HPick.hit))) ?_; (conv => whnf))) | rw [g1]
      refine Fin.mk ⟨i + 1, ⟨by omega, tn⟩, by omega, by repeat' first | exact Sub.nil _ | refine Sub.auto ?_, Subp.take (t := ?_) ?_⟩
      rotate_left
      (repeat first | exact HTake.nil | (apply HTake.cons; focus (repeat first | exact HPick.hit | apply HPick.miss)))
  · have : i = l.length := by omega
    subst this
    rw [List.take_length] at i2
    have e := idx_no i2
    clear i2 B
    repeat' first | refine Ops.tag rfl ?_ | (refine OpsT.go ?_; (conv => arg 7; whnf)) | ((with_reducible refine Stp.isDec ?_); first | refine Stp.decF ?_) | refine Stp.pure rfl ?_ | refine Ops.nil ?_ | ((with_reducible refine Br.id ?_); first | (with_reducible first | refine br_false rfl ?_)) | ((with_reducible refine SemWp.id ?_); first | refine sem_seq ?_ | refine sem_region rfl ?_ | refine sem_cond rfl ?_ | refine sem_exit ?_ | refine sem_ret ?_) | ((with_reducible refine qThen.id ?_); first | refine qThen.go ?_) | ((with_reducible refine BodyR.id ?_); first | refine BodyR.ret ?_) | ((with_reducible refine ResG.id ?_); first | refine ResG.tmp rfl ?_ | refine ResG.nil ?_)
    refine Fin.mk ⟨by rw [e]; rfl, Subp.take (t := ?_) ?_⟩
    rotate_left
    (repeat first | exact HTake.nil | (apply HTake.cons; focus (repeat first | exact HPick.hit | apply HPick.miss)))
theorem anyA_spec (p q r : Nat) (hpq : p ≠ q) (hpr : p ≠ r) (hqr : q ≠ r) (n m : Int) (l : List GA) (hl : ∀ a ∈ l, SmA a) (hn : l.length ≤ 9223372036854775807) :
    HCalls cx.P 80 [LAs l, .fn (.func 81) [] [.ptr p 0, .ptr q 0, .ptr r 0]] (affS p q r n m) fun e st => e = .ret (bb (l.any (badA n m))) ∧ st = affS p q r n m := by
  have I := idxA_spec p q r hpq hpr hqr n m l hl hn
  unfold affS at *
  refine HCalls.sub (sem_calls' cx (fn := Try.f80) rfl rfl rfl rfl ?_)
  repeat' first | refine Ops.tag rfl ?_ | (refine OpsT.go ?_; (conv => arg 7; whnf)) | refine Stp.pure rfl ?_ | refine PutK.mk' rfl ?_ | refine Ops.nil ?_ | ((with_reducible refine Side.id ?_); first | refine Side.auto ?_) | ((with_reducible refine SemWp.id ?_); first | refine sem_seq ?_ | refine sem_region rfl ?_ | refine sem_ret ?_) | ((with_reducible refine qThen.id ?_); first | refine qThen.go ?_) | refine Stp.call ?_ | ((with_reducible refine CallWp.id ?_); first | (refine callT cx (I) (by repeat first | exact HTake.nil | (apply HTake.cons; focus (repeat first | exact HPick.hit))) ?_; (conv => whnf))) | ((with_reducible refine BodyR.id ?_); first | refine BodyR.ret ?_) | ((with_reducible refine ResG.id ?_); first | refine ResG.tmp rfl ?_ | refine ResG.nil ?_)
  refine Fin.mk ⟨by rw [← idx_ge (p := badA n m)]; rfl, Subp.take (t := ?_) ?_⟩
  rotate_left
  (repeat first | exact HTake.nil | (apply HTake.cons; focus (repeat first | exact HPick.hit | apply HPick.miss)))
def affsB (l : List GA) (n m : Int) : Bool := !l.any (badA n m)
theorem affs_spec (l : List GA) (n m : Int) (hl : ∀ a ∈ l, SmA a) (hn : l.length ≤ 9223372036854775807) : Pur cx 68 [LAs l, ii n, ii m] (bb (affsB l n m)) := by
  refine Pur.of (sem_calls' cx (fn := Try.f68) rfl rfl rfl rfl ?_)
  have A := fun p q r h1 h2 h3 => anyA_spec p q r h1 h2 h3 n m l hl hn
  unfold affS at A
  repeat' first | refine Ops.tag rfl ?_ | (refine OpsT.go ?_; (conv => arg 7; whnf)) | refine Stp.pure rfl ?_ | ((with_reducible refine PutK.isSet ?_); refine PutK.set (by repeat first | exact HsetIs.hit) ?_) | refine PutK.mk' rfl ?_ | refine Ops.nil ?_ | ((with_reducible refine Look.id ?_); refine Look.auto ?_ (by repeat first | exact HGet.hit); try (conv => arg 7; whnf)) | ((with_reducible refine Side.id ?_); first | refine Side.auto ?_) | ((with_reducible refine SemWp.id ?_); first | refine sem_seq ?_ | refine sem_region rfl ?_ | refine sem_ret ?_) | ((with_reducible refine qThen.id ?_); first | refine qThen.go ?_) | refine Stp.look ?_ | refine Stp.call ?_ | refine Stp.eff ?_ | ((with_reducible refine CallWp.id ?_); first | (refine callT cx (A _ _ _ (by omega) (by omega) (by omega)) (by repeat first | exact HTake.nil | (apply HTake.cons; focus (repeat first | exact HPick.hit | apply HPick.miss))) ?_; (conv => whnf))) | (refine newN (fun r hr => ?_); simp only [keys, List.nil_append, List.cons_append, List.map_cons, List.map_nil, List.mem_cons, List.not_mem_nil, not_or, or_false, not_false_eq_true] at hr) | ((with_reducible refine BodyR.id ?_); first | refine BodyR.ret ?_) | ((with_reducible refine ResG.id ?_); first | refine ResG.tmp rfl ?_ | refine ResG.nil ?_) | ((with_reducible refine Upd.id ?_); first | (refine Upd.lit rfl ?_; (conv => whnf)))
  exact Fin.mk rfl
def inB (n i : Int) : Bool := decide (0 ≤ i) && decide (i < n)
def wideB (m : Int) : Bool := decide (0 ≤ m) && decide (m ≤ 40)
theorem in_spec (r : Nat) (n i : Int) : HCalls cx.P 66 [ii i, .ptr r 0] [(r, .cells [ii n] 3)] fun e st => e = .ret (bb (inB n i)) ∧ st = [(r, .cells [ii n] 3)] := by
  refine HCalls.sub (sem_calls' cx (fn := Try.f66) rfl rfl rfl rfl ?_)
  by_cases h : 0 ≤ i
  · repeat' first | refine Ops.tag rfl ?_ | ((with_reducible first | refine OpsT.yes ?_); (conv => arg 7; whnf)) | (refine OpsT.go ?_; (conv => arg 7; whnf)) | (with_reducible first | refine Stp.andT ?_) | ((with_reducible refine Stp.isDec ?_); first | refine Stp.decT ?_) | refine Stp.pure rfl ?_ | refine Ops.nil ?_ | ((with_reducible refine Look.id ?_); refine Look.auto ?_ (by repeat first | exact HGet.hit); try (conv => arg 7; whnf)) | ((with_reducible refine Side.id ?_); first | refine Side.auto ?_) | ((with_reducible refine SemWp.id ?_); first | refine sem_seq ?_ | refine sem_region rfl ?_ | refine sem_ret ?_) | ((with_reducible refine qThen.id ?_); first | refine qThen.go ?_) | refine Stp.valS ?_ | refine Stp.look ?_ | ((with_reducible refine BodyR.id ?_); first | refine BodyR.ret ?_) | ((with_reducible refine ResG.id ?_); first | refine ResG.tmp rfl ?_ | refine ResG.nil ?_)
    exact Fin.mk ⟨by unfold inB; rw [decide_eq_true h, Bool.true_and]; rfl, Subp.refl _⟩
  · repeat' first | refine Ops.tag rfl ?_ | (with_reducible first | refine OpsT.no ?_) | (refine OpsT.go ?_; (conv => arg 7; whnf)) | (with_reducible first | refine Stp.andF ?_) | ((with_reducible refine Stp.isDec ?_); first | refine Stp.decF ?_) | refine Stp.pure rfl ?_ | refine PutK.mk' rfl ?_ | refine Ops.nil ?_ | ((with_reducible refine Side.id ?_); first | refine Side.auto ?_) | ((with_reducible refine SemWp.id ?_); first | refine sem_seq ?_ | refine sem_region rfl ?_ | refine sem_ret ?_) | ((with_reducible refine qThen.id ?_); first | refine qThen.go ?_) | refine Stp.valS ?_ | ((with_reducible refine BodyR.id ?_); first | refine BodyR.ret ?_) | ((with_reducible refine ResG.id ?_); first | refine ResG.tmp rfl ?_ | refine ResG.nil ?_)
    exact Fin.mk ⟨by unfold inB; rw [decide_eq_false h]; rfl, Subp.refl _⟩
theorem wide_spec (m : Int) : Pur cx 67 [ii m] (bb (wideB m)) := by
  refine Pur.of (sem_calls' cx (fn := Try.f67) rfl rfl rfl rfl ?_)
  by_cases h : 0 ≤ m
  · repeat' first | refine Ops.tag rfl ?_ | ((with_reducible first | refine OpsT.yes ?_); (conv => arg 7; whnf)) | (refine OpsT.go ?_; (conv => arg 7; whnf)) | (with_reducible first | refine Stp.andT ?_) | ((with_reducible refine Stp.isDec ?_); first | refine Stp.decT ?_) | refine Stp.pure rfl ?_ | refine Ops.nil ?_ | ((with_reducible refine SemWp.id ?_); first | refine sem_seq ?_ | refine sem_region rfl ?_ | refine sem_ret ?_) | ((with_reducible refine qThen.id ?_); first | refine qThen.go ?_) | ((with_reducible refine BodyR.id ?_); first | refine BodyR.ret ?_) | ((with_reducible refine ResG.id ?_); first | refine ResG.tmp rfl ?_ | refine ResG.nil ?_)
    exact Fin.mk (by unfold wideB; rw [decide_eq_true h, Bool.true_and]; rfl)
  · repeat' first | refine Ops.tag rfl ?_ | (with_reducible first | refine OpsT.no ?_) | (refine OpsT.go ?_; (conv => arg 7; whnf)) | (with_reducible first | refine Stp.andF ?_) | ((with_reducible refine Stp.isDec ?_); first | refine Stp.decF ?_) | refine Stp.pure rfl ?_ | refine PutK.mk' rfl ?_ | refine Ops.nil ?_ | ((with_reducible refine Side.id ?_); first | refine Side.auto ?_) | ((with_reducible refine SemWp.id ?_); first | refine sem_seq ?_ | refine sem_region rfl ?_ | refine sem_ret ?_) | ((with_reducible refine qThen.id ?_); first | refine qThen.go ?_) | refine Stp.valS ?_ | ((with_reducible refine BodyR.id ?_); first | refine BodyR.ret ?_) | ((with_reducible refine ResG.id ?_); first | refine ResG.tmp rfl ?_ | refine ResG.nil ?_)
    exact Fin.mk (by unfold wideB; rw [decide_eq_false h]; rfl)
end Go.Proofs.Hk

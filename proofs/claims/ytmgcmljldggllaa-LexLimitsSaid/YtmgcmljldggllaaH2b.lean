import Derived.Calls
import Derived.Test.YtmgcmljldggllaaH2
set_option linter.unusedSimpArgs false
set_option linter.unusedVariables false
namespace Go.Proofs.Hk
open Go

def leafEq : Value → Value → Bool
  | .bool a, .bool b => a == b
  | .int k a, .int k' b => kindEq k k' && a == b
  | .string a, .string b => a.data.toList == b.data.toList
  | .pointer none, .pointer none => true
  | .slice none 0 0, .slice none 0 0 => true
  | .map none, .map none => true
  | .nilFunc, .nilFunc => true
  | .nilIface, .nilIface => true
  | _, _ => false
theorem leafEq_eq {a b : Value} (h : leafEq a b = true) : a = b := by
  unfold leafEq at h
  split at h <;> first | rfl | (simp at h) | skip
  · rw [h]
  · obtain ⟨h1, h2⟩ := h; rw [kindEq_eq h1, h2]
  · congr; exact congrArg ByteArray.mk (by simpa using h)
def leavesEq : List Value → List Value → Bool
  | [], [] => true
  | a :: l, b :: m => leafEq a b && leavesEq l m
  | _, _ => false
theorem leavesEq_eq : ∀ {a b : List Value}, leavesEq a b = true → a = b
  | [], [], _ => rfl
  | a :: l, b :: m, h => by
    simp only [leavesEq, Bool.and_eq_true] at h
    rw [leafEq_eq h.1, leavesEq_eq h.2]
  | [], _ :: _, h => by simp [leavesEq] at h
  | _ :: _, [], h => by simp [leavesEq] at h
def valEq : Value → Value → Bool
  | .agg a, .agg b => leavesEq a.toList b.toList
  | a, b => leafEq a b
theorem valEq_eq {a b : Value} (h : valEq a b = true) : a = b := by
  unfold valEq at h
  split at h
  · rw [Array.toList_inj.1 (leavesEq_eq h)]
  · exact leafEq_eq h

def fieldsB (P : Program) : List Field → List (Nat × Nat × Bool) → Bool
  | [], [] => true
  | f :: fs, (o, s, b) :: l => f.offset == o && (match P.info? f.type, P.underlying f.type with
    | some i, some u => i.size == s && descAgg u == b
    | _, _ => false) && fieldsB P fs l
  | _, _ => false
theorem fieldsB_ok {P : Program} : ∀ {fs : List Field} {l : List (Nat × Nat × Bool)}, fieldsB P fs l = true → fieldsOK P fs l
  | [], [], _ => rfl
  | f :: fs, (o, s, b) :: l, h => by
    simp only [fieldsB, Bool.and_eq_true] at h
    obtain ⟨⟨h1, h2⟩, h3⟩ := h
    split at h2
    · rename_i i u hi hu
      simp only [Bool.and_eq_true, beq_iff_eq] at h2
      exact ⟨o, s, b, l, rfl, by simpa using h1, ⟨i, u, hi, hu, h2.1, h2.2⟩, fieldsB_ok h3⟩
    · cases h2
  | [], _ :: _, h => by simp [fieldsB] at h
  | _ :: _, [], h => by simp [fieldsB] at h
def shB (P : Program) : TypeDesc → Sh → Bool
  | .int k, .int k' => kindEq k k'
  | .bool, .bool => true
  | .string, .string => true
  | .slice e, .slice e' => e == e'
  | .struct fs, .struct l eq => fieldsB P fs.toList l && (!eq || fieldsEq P fs.toList)
  | .array n e, .array n' e' => n == n' && e == e'
  | .map k e, .map k' e' => k == k' && e == e'
  | .pointer e, .ptr e' => e == e'
  | .func _ _ _, .func => true
  | .interface _, .iface => true
  | _, .other => true
  | _, _ => false
theorem shB_ok {P : Program} {u : TypeDesc} {d : Sh} (h : shB P u d = true) : shOK P u d := by
  unfold shB at h
  split at h
  · exact kindEq_eq h
  · trivial
  · trivial
  · exact beq_iff_eq.1 h
  · simp only [Bool.and_eq_true, Bool.or_eq_true, Bool.not_eq_true'] at h
    refine ⟨fieldsB_ok h.1, fun e => ?_⟩
    rcases h.2 with h2 | h2
    · rw [h2] at e; cases e
    · exact h2
  · simp only [Bool.and_eq_true, beq_iff_eq] at h; exact h
  · simp only [Bool.and_eq_true, beq_iff_eq] at h; exact h
  · exact beq_iff_eq.1 h
  · trivial
  · trivial
  · unfold shOK; split <;> trivial
  · cases h
def tyB (P : Program) (t : TypeId) (d : TyD) : Bool :=
  match P.info? t, P.underlying t with
  | some i, some u => i.size == d.size && i.bytes == d.bytes && (match i.zero with
    | some z => valEq z d.zero
    | none => false) && descAgg u == d.isAgg && shB P u d.sh && d.zero.cells.size == d.size
  | _, _ => false
theorem tyB_ok {P : Program} {t : TypeId} {d : TyD} (h : tyB P t d = true) : TyOK P t d := by
  unfold tyB at h
  split at h
  · rename_i i u hi hu
    simp only [Bool.and_eq_true, beq_iff_eq] at h
    obtain ⟨⟨⟨⟨⟨h1, h2⟩, h3⟩, h4⟩, h5⟩, h6⟩ := h
    split at h3
    · rename_i z hz
      exact ⟨i, u, hi, hu, h1, h2, by rw [hz, valEq_eq h3], h4, shB_ok h5, h6⟩
    · cases h3
  · cases h
def tysB (P : Program) : Nat → List (Option TyD) → Bool
  | _, [] => true
  | t, none :: l => tysB P (t + 1) l
  | t, some d :: l => tyB P t d && tysB P (t + 1) l
theorem tysB_ok {P : Program} : ∀ {l : List (Option TyD)} {k : Nat}, tysB P k l = true → ∀ t d, l[t]? = some (some d) → TyOK P (k + t) d
  | [], _, _, t, d, e => by simp at e
  | none :: l, k, h, 0, d, e => by simp at e
  | none :: l, k, h, t + 1, d, e => by
    have := tysB_ok (l := l) (k := k + 1) h t d (by simpa using e)
    rwa [show k + 1 + t = k + (t + 1) from by omega] at this
  | some d' :: l, k, h, 0, d, e => by
    simp only [tysB, Bool.and_eq_true] at h
    simp only [List.getElem?_cons_zero, Option.some.injEq] at e
    subst e
    exact tyB_ok h.1
  | some d' :: l, k, h, t + 1, d, e => by
    simp only [tysB, Bool.and_eq_true] at h
    have := tysB_ok (l := l) (k := k + 1) h.2 t d (by simpa using e)
    rwa [show k + 1 + t = k + (t + 1) from by omega] at this

def tyAt : List (Option TyD) → Nat → Option TyD
  | [], _ => none
  | d :: _, 0 => d
  | _ :: l, t + 1 => tyAt l t
theorem tyAt_get : ∀ {l : List (Option TyD)} {t : Nat} {d : TyD}, tyAt l t = some d → l[t]? = some (some d)
  | [], _, _, h => by simp [tyAt] at h
  | x :: _, 0, d, h => by simp only [tyAt] at h; simp [h]
  | _ :: l, t + 1, d, h => by simp only [tyAt] at h; simpa using tyAt_get h

def fnB (P : Program) (f : FuncId) : Bool :=
  match P.funcs[f]? with
  | some d => !d.body.isNone && !(d.name == "runtime.NumGoroutine")
  | none => false
def fnsB (P : Program) (mask : Nat) : Nat → Bool
  | 0 => true
  | k + 1 => (!mask.testBit k || fnB P k) && fnsB P mask k
theorem fnsB_ok {P : Program} {mask : Nat} : ∀ {k : Nat}, fnsB P mask k = true → ∀ f, f < k → mask.testBit f = true → fnB P f = true
  | 0, _, f, hf, _ => by omega
  | k + 1, h, f, hf, hm => by
    simp only [fnsB, Bool.and_eq_true, Bool.or_eq_true, Bool.not_eq_true'] at h
    rcases Nat.lt_or_eq_of_le (Nat.lt_succ_iff.1 hf) with hlt | rfl
    · exact fnsB_ok h.2 f hlt hm
    · rcases h.1 with e | e
      · rw [e] at hm; cases hm
      · exact e

def eqB (P : Program) (t : TypeId) (l : List (Nat × PK)) : Bool :=
  !P.stoodInHeld t && !P.eqGuardType P.depth t && (match P.underlying t with
    | some (.struct fs) => eqFsB P fs.toList l
    | _ => false)
theorem eqB_ok {P : Program} {t : TypeId} {l : List (Nat × PK)} (h : eqB P t l = true) : EqOK P t l := by
  unfold eqB at h
  simp only [Bool.and_eq_true, Bool.not_eq_true'] at h
  obtain ⟨⟨h1, h2⟩, h3⟩ := h
  split at h3
  · rename_i fs hfs; exact ⟨h1, h2, fs, hfs, h3⟩
  · cases h3
def eqsB (P : Program) : List (Nat × List (Nat × PK)) → Bool
  | [] => true
  | (t, l) :: r => eqB P t l && eqsB P r
def eqAt : List (Nat × List (Nat × PK)) → Nat → Option (List (Nat × PK))
  | [], _ => none
  | (u, l) :: r, t => match Nat.beq u t with
    | true => some l
    | false => eqAt r t
theorem eqsB_ok {P : Program} : ∀ {r : List (Nat × List (Nat × PK))}, eqsB P r = true → ∀ t l, eqAt r t = some l → EqOK P t l
  | [], _, t, l, e => by simp [eqAt] at e
  | (u, l') :: r, h, t, l, e => by
    simp only [eqsB, Bool.and_eq_true] at h
    simp only [eqAt] at e
    split at e
    · rename_i hu
      have := Nat.eq_of_beq_eq_true hu
      subst this
      cases e
      exact eqB_ok h.1
    · exact eqsB_ok h.2 t l e

/-- The context out of what is computed. -/
def mkCx (P : Program) (tys : List (Option TyD)) (mask k : Nat) (es : List (Nat × List (Nat × PK))) (ht : tysB P 0 tys = true) (hf : fnsB P mask k = true) (ho : P.follows .mixedOrders = true) (he : eqsB P es = true) : Cx where
  P := P
  ty := tyAt tys
  fn := fun f => Nat.blt f k && mask.testBit f
  ty_ok := fun t d h => by have := tysB_ok ht t d (tyAt_get h); rwa [Nat.zero_add] at this
  fn_ok := fun f h => by
    simp only [Bool.and_eq_true, Nat.blt_eq] at h
    have := fnsB_ok hf f h.1 h.2
    unfold fnB at this
    split at this
    · rename_i d hd
      simp only [Bool.and_eq_true, Bool.not_eq_true'] at this
      exact ⟨d, hd, this.1, this.2⟩
    · cases this
  orders := ho
  eqs := eqAt es
  eq_ok := eqsB_ok he

end Go.Proofs.Hk

import Derived.Calls
import Derived.Test.YtmgcmljldggllaaH1
set_option linter.unusedSimpArgs false
set_option linter.unusedVariables false
namespace Go.Proofs.Hk
open Go

/-! Types, as far as they are asked. -/
inductive Sh where
  | int (k : IntKind)
  | bool
  | string
  | slice (elem : TypeId)
  | struct (fs : List (Nat × Nat × Bool)) (eq : Bool)
  | array (n : Nat) (elem : TypeId)
  | map (key elem : TypeId)
  | ptr (elem : TypeId)
  | func
  | iface
  | other
structure TyD where
  size : Nat
  bytes : Nat
  isAgg : Bool
  zero : Value
  sh : Sh

def descAgg : TypeDesc → Bool
  | .struct _ => true
  | .array _ _ => true
  | _ => false
/-- A type that '==' may be asked of, part by part. -/
def descPlain : TypeDesc → Bool
  | .int _ => true
  | .bool => true
  | .string => true
  | _ => false
def fieldsOK (P : Program) : List Field → List (Nat × Nat × Bool) → Prop
  | [], l => l = []
  | f :: fs, l => ∃ o s b l', l = (o, s, b) :: l' ∧ f.offset = o ∧ (∃ i u, P.info? f.type = some i ∧ P.underlying f.type = some u ∧ i.size = s ∧ descAgg u = b) ∧ fieldsOK P fs l'
def fieldsEq (P : Program) : List Field → Bool
  | [] => true
  | f :: fs => (f.name != "_") && ((P.underlying f.type).any descPlain) && fieldsEq P fs
def shOK (P : Program) : TypeDesc → Sh → Prop
  | .int k, .int k' => k = k'
  | .bool, .bool => True
  | .string, .string => True
  | .slice e, .slice e' => e = e'
  | .struct fs, .struct l eq => fieldsOK P fs.toList l ∧ (eq = true → fieldsEq P fs.toList = true)
  | .array n e, .array n' e' => n = n' ∧ e = e'
  | .map k e, .map k' e' => k = k' ∧ e = e'
  | .pointer e, .ptr e' => e = e'
  | .func _ _ _, .func => True
  | .interface _, .iface => True
  | _, .other => True
  | _, _ => False
def TyOK (P : Program) (t : TypeId) (d : TyD) : Prop :=
  ∃ i u, P.info? t = some i ∧ P.underlying t = some u ∧ i.size = d.size ∧ i.bytes = d.bytes ∧ i.zero = some d.zero ∧ descAgg u = d.isAgg ∧ shOK P u d.sh ∧ d.zero.cells.size = d.size

/-- Sorts of fields that '==' compares at once. -/
inductive PK where
  | int
  | bool
  | string
def pkOf : TypeDesc → PK → Bool
  | .int _, .int => true
  | .bool, .bool => true
  | .string, .string => true
  | _, _ => false
def eqFsB (P : Program) : List Field → List (Nat × PK) → Bool
  | [], [] => true
  | f :: fs, (o, k) :: l => (f.name != "_") && (f.offset == o) && ((P.underlying f.type).any fun u => pkOf u k) && eqFsB P fs l
  | _, _ => false
/-- What '==' of a struct comes to is known. -/
def EqOK (P : Program) (t : TypeId) (l : List (Nat × PK)) : Prop :=
  P.stoodInHeld t = false ∧ P.eqGuardType P.depth t = false ∧ ∃ fs, P.underlying t = some (.struct fs) ∧ eqFsB P fs.toList l = true

/-- A program, with what is known of its types and functions. -/
structure Cx where
  P : Program
  ty : Nat → Option TyD
  fn : Nat → Bool
  ty_ok : ∀ t d, ty t = some d → TyOK P t d
  fn_ok : ∀ f, fn f = true → ∃ d, P.funcs[f]? = some d ∧ d.body.isNone = false ∧ (d.name == "runtime.NumGoroutine") = false
  orders : P.follows .mixedOrders = true
  eqs : Nat → Option (List (Nat × PK))
  eq_ok : ∀ t l, eqs t = some l → EqOK P t l

/-! Frames. -/
inductive Tag where
  | sure
  | cond (b : Bool)
abbrev Fr := List (Nat × Tag × HV)
def Fr.get : Fr → Nat → Option (Tag × HV)
  | [], _ => none
  | (t, g, x) :: a, u => match Nat.beq t u with
    | true => some (g, x)
    | false => Fr.get a u
def ev (a : Fr) : Operand → Option (Tag × HV)
  | .tmp t => a.get t
  | .const v => match v with
    | .agg _ => none
    | .tuple _ => none
    | v => some (.sure, .v v)
  | .func f => some (.sure, .fn (.func f) [] [])
  | .global _ => none

def tagRel (G : Ghost) (g : Tag) (x : HV) (u : Value) : Prop :=
  match g with
  | .sure => rel G x u
  | .cond b => (b = true → rel G x u) ∧ (b = false → u = undef)
structure FRel (G : Ghost) (n : Nat) (a : Fr) (ra : Act) : Prop where
  size : ra.tmps.size = n
  defers : ra.defers = []
  slots : ∀ t g x, a.get t = some (g, x) → t < n ∧ tagRel G g x (ra.tmps.getD t undef)

/-- A list whose spine is laid open first. -/
def forceL {α : Type} {β : Sort _} : List α → (List α → β) → β
  | [], k => k []
  | x :: xs, k => forceL xs fun ys => k (x :: ys)
theorem forceL_eq {α : Type} {β : Sort _} : ∀ (l : List α) (k : List α → β), forceL l k = k l
  | [], _ => rfl
  | x :: xs, k => by rw [forceL, forceL_eq xs]

/-! Operations. -/
/-- What is asked beside what goes on. -/
structure Side (φ K : Prop) : Prop where
  side : φ
  k : K
/-- Two ways. -/
structure Br (b : Bool) (X Y : Prop) : Prop where
  yes : b = true → X
  no : b = false → Y
inductive OpRes where
  | bad
  | pure (x : HV)
  | val (φ : Prop) (x : HV)
  | call (φ : Prop) (f : FuncId) (args : List HV)
  | pan (φ : Prop) (x : HV)
  | eff (W : (HV → HS → Prop) → Prop)
  | look (r : Nat) (k : Res → OpRes)
def OpRes.need (φ : Prop) : OpRes → OpRes
  | .bad => .bad
  | .pure x => .val φ x
  | .val ψ x => .val (φ ∧ ψ) x
  | .call ψ f l => .call (φ ∧ ψ) f l
  | .pan ψ x => .pan (φ ∧ ψ) x
  | .eff W => .eff fun K => Side φ (W K)
  | .look r k => .look r fun x => (k x).need φ
def arg (a : Fr) (x : Operand) (k : HV → OpRes) : OpRes :=
  match ev a x with
  | none => .bad
  | some (.sure, v) => k v
  | some (.cond b, v) => (k v).need (b = true)
def argsM (a : Fr) : List Operand → (List HV → OpRes) → OpRes
  | [], k => k []
  | x :: xs, k => arg a x fun v => argsM a xs fun vs => k (v :: vs)

def strEq (a b : ByteArray) : Bool := a.toList == b.toList

def kindEq : IntKind → IntKind → Bool
  | .i8, .i8 => true | .i16, .i16 => true | .i32, .i32 => true | .i64, .i64 => true
  | .u8, .u8 => true | .u16, .u16 => true | .u32, .u32 => true | .u64, .u64 => true
  | _, _ => false
theorem kindEq_eq {a b : IntKind} (h : kindEq a b = true) : a = b := by cases a <;> cases b <;> first | rfl | simp [kindEq] at h

def hint (op : BinOp) (k : IntKind) (a b : Int) : OpRes :=
  match op with
  | .add => .pure (.v (.int k (k.wrap (a + b))))
  | .sub => .pure (.v (.int k (k.wrap (a - b))))
  | .mul => .pure (.v (.int k (k.wrap (a * b))))
  | .quo => .val (b ≠ 0) (.v (.int k (k.wrap (a.tdiv b))))
  | .rem => .val (b ≠ 0) (.v (.int k (a.tmod b)))
  | .and => .pure (.v (.int k (k.wrap (BitVec.ofInt k.bits a &&& BitVec.ofInt k.bits b).toNat)))
  | .or => .pure (.v (.int k (k.wrap (BitVec.ofInt k.bits a ||| BitVec.ofInt k.bits b).toNat)))
  | .xor => .pure (.v (.int k (k.wrap (BitVec.ofInt k.bits a ^^^ BitVec.ofInt k.bits b).toNat)))
  | .eql => .pure (.v (.bool (a == b)))
  | .neq => .pure (.v (.bool (a != b)))
  | .lss => .pure (.v (.bool (decide (a < b))))
  | .leq => .pure (.v (.bool (decide (a ≤ b))))
  | .gtr => .pure (.v (.bool (decide (a > b))))
  | .geq => .pure (.v (.bool (decide (a ≥ b))))
  | _ => .bad
def hstr (op : BinOp) (a b : ByteArray) : OpRes :=
  match op with
  | .add => .val (((a.size + b.size : Nat) : Int) ≤ 9223372036854775807) (.v (.string (a ++ b)))
  | .eql => .pure (.v (.bool (strEq a b)))
  | .neq => .pure (.v (.bool (!strEq a b)))
  | _ => .bad
def hbin (op : BinOp) (x y : HV) : OpRes :=
  match x, y with
  | .v (.int k a), .v (.int k' b) =>
    match op with
    | .shl => .val (0 ≤ b) (.v (.int k (k.wrap (a * 2 ^ (min b.toNat k.bits)))))
    | .shr => .val (0 ≤ b) (.v (.int k (a.fdiv (2 ^ (min b.toNat k.bits)))))
    | op => match kindEq k k' with
      | true => hint op k a b
      | false => .bad
  | .v (.string a), .v (.string b) => hstr op a b
  | _, _ => .bad

/-- A part of a struct. -/
def hpart (l : List HV) (o s : Nat) (agg : Bool) : OpRes :=
  match agg with
  | true => match Nat.ble (o + s) l.length with
    | true => forceL ((l.drop o).take s) fun l => .pure (.agg l)
    | false => .bad
  | false => match l[o]? with
    | some x => .pure x
    | none => .bad

def HV.cells : HV → List HV
  | .agg l => l
  | x => [x]

def hget (s : HS) (r : Nat) : Option Res :=
  match s with
  | [] => none
  | (q, x) :: s => if q = r then some x else hget s r
def hset (s : HS) (r : Nat) (y : Res) : HS :=
  match s with
  | [] => []
  | (q, x) :: s => if q = r then (q, y) :: s else (q, x) :: hset s r y

theorem hget_nil (r : Nat) : hget [] r = none := rfl
theorem hget_cons (q : Nat) (x : Res) (s : HS) (r : Nat) : hget ((q, x) :: s) r = if q = r then some x else hget s r := rfl
theorem hset_nil (r : Nat) (y : Res) : hset [] r y = [] := rfl
theorem hset_cons (q : Nat) (x : Res) (s : HS) (r : Nat) (y : Res) : hset ((q, x) :: s) r y = if q = r then (q, y) :: s else (q, x) :: hset s r y := rfl
attribute [irreducible] hget hset

def kdOk : HV → Bool
  | .tup _ => false
  | _ => true
def kdOne : HV → Bool
  | .agg _ => false
  | .tup _ => false
  | _ => true
def kdAgg : HV → Bool
  | .agg _ => true
  | _ => false
theorem kdOk_ne {x : HV} (h : kdOk x = true) : x.kd ≠ .tup := by cases x <;> simp_all [kdOk, HV.kd]
theorem kdOne_eq {x : HV} (h : kdOne x = true) : x.kd = .one := by cases x <;> simp_all [kdOne, HV.kd]
theorem kdAgg_eq {x : HV} (h : kdAgg x = true) : x.kd = .agg := by cases x <;> simp_all [kdAgg, HV.kd]

/-- Loads: of memory that never changes, of an object. -/
def hload (c : Cx) (t : TypeId) (p : HV) : OpRes :=
  match c.ty t with
  | none => .bad
  | some d => match p with
    | .cptr x => match d.isAgg with
      | true => .val ((kdAgg x && Nat.beq x.cells.length d.size) = true) x
      | false => .val (kdOne x = true) x
    | .ptr r off => .look r fun
      | .cells cs _ => match d.isAgg with
        | true => match Nat.ble (off + d.size) cs.length with
          | true => forceL ((cs.drop off).take d.size) fun l => .pure (.agg l)
          | false => .bad
        | false => match cs[off]? with
          | some x => .val (kdOne x = true) x
          | none => .bad
      | _ => .bad
    | _ => .bad

/-- What becomes of cells that are written to. -/
structure Upd (cs : List HV) (off n : Nat) (ys : List HV) (K : List HV → Prop) : Prop where
  le : off + n ≤ cs.length
  k : K (cs.take off ++ ys ++ cs.drop (off + n))
def hstore (c : Cx) (s : HS) (t : TypeId) (p x : HV) : OpRes :=
  match c.ty t with
  | none => .bad
  | some d => match p with
    | .ptr r off => .look r fun
      | .cells cs t' => match kdOk x && Nat.beq x.cells.length d.size with
        | true => .eff fun K => Upd cs off d.size x.cells fun l => K (.tup []) (hset s r (.cells l t'))
        | false => .bad
      | _ => .bad
    | _ => .bad

def hnew (s : HS) (t : TypeId) (x : HV) : OpRes :=
  match kdOk x with
  | true => forceL x.cells fun l => .eff fun K => ∀ r, r ∉ keys s → K (.ptr r 0) ((r, .cells l t) :: s)
  | false => .bad
def vOne : Value → Bool
  | .agg _ => false
  | .tuple _ => false
  | _ => true

def hzero (c : Cx) (t : TypeId) : Option HV :=
  match c.ty t with
  | none => none
  | some d => match d.zero with
    | .agg cs => match cs.toList.all vOne with
      | true => some (.agg (cs.toList.map .v))
      | false => none
    | .tuple _ => none
    | v => some (.v v)

/-- A struct out of its parts. -/
def hfill (fs : List (Nat × Nat × Bool)) : List (Nat × HV) → List HV → Option (List HV)
  | [], l => some l
  | (i, x) :: rest, l => match fs[i]? with
    | none => none
    | some (o, s, _) => match Nat.beq x.cells.length s with
      | false => none
      | true => match kdOk x with
        | true => match Nat.ble (o + s) l.length with
          | true => hfill fs rest (l.take o ++ x.cells ++ l.drop (o + s))
          | false => none
        | false => none
end Go.Proofs.Hk

namespace Go.Proofs.Hk
open Go

def leafEq : Value → Value → Bool
  | .bool a, .bool b => a == b
  | .int k a, .int k' b => kindEq k k' && a == b
  | .string a, .string b => a.data.toList == b.data.toList
  | .pointer none, .pointer none => true
  | .slice none 0 0, .slice none 0 0 => true
  | .map none, .map none => true
  | .nilFunc, .nilFunc => true
  | .nilIface, .nilIface => true
  | _, _ => false
theorem leafEq_eq {a b : Value} (h : leafEq a b = true) : a = b := by
  unfold leafEq at h
  split at h <;> first | rfl | (simp at h) | skip
  · rw [h]
  · obtain ⟨h1, h2⟩ := h; rw [kindEq_eq h1, h2]
  · congr; exact congrArg ByteArray.mk (by simpa using h)
def leavesEq : List Value → List Value → Bool
  | [], [] => true
  | a :: l, b :: m => leafEq a b && leavesEq l m
  | _, _ => false
theorem leavesEq_eq : ∀ {a b : List Value}, leavesEq a b = true → a = b
  | [], [], _ => rfl
  | a :: l, b :: m, h => by
    simp only [leavesEq, Bool.and_eq_true] at h
    rw [leafEq_eq h.1, leavesEq_eq h.2]
  | [], _ :: _, h => by simp [leavesEq] at h
  | _ :: _, [], h => by simp [leavesEq] at h
def valEq : Value → Value → Bool
  | .agg a, .agg b => leavesEq a.toList b.toList
  | a, b => leafEq a b
theorem valEq_eq {a b : Value} (h : valEq a b = true) : a = b := by
  unfold valEq at h
  split at h
  · rw [Array.toList_inj.1 (leavesEq_eq h)]
  · exact leafEq_eq h

def fieldsB (P : Program) : List Field → List (Nat × Nat × Bool) → Bool
  | [], [] => true
  | f :: fs, (o, s, b) :: l => f.offset == o && (match P.info? f.type, P.underlying f.type with
    | some i, some u => i.size == s && descAgg u == b
    | _, _ => false) && fieldsB P fs l
  | _, _ => false
theorem fieldsB_ok {P : Program} : ∀ {fs : List Field} {l : List (Nat × Nat × Bool)}, fieldsB P fs l = true → fieldsOK P fs l
  | [], [], _ => rfl
  | f :: fs, (o, s, b) :: l, h => by
    simp only [fieldsB, Bool.and_eq_true] at h
    obtain ⟨⟨h1, h2⟩, h3⟩ := h
    split at h2
    · rename_i i u hi hu
      simp only [Bool.and_eq_true, beq_iff_eq] at h2
      exact ⟨o, s, b, l, rfl, by simpa using h1, ⟨i, u, hi, hu, h2.1, h2.2⟩, fieldsB_ok h3⟩
    · cases h2
  | [], _ :: _, h => by simp [fieldsB] at h
  | _ :: _, [], h => by simp [fieldsB] at h
def shB (P : Program) : TypeDesc → Sh → Bool
  | .int k, .int k' => kindEq k k'
  | .bool, .bool => true
  | .string, .string => true
  | .slice e, .slice e' => e == e'
  | .struct fs, .struct l eq => fieldsB P fs.toList l && (!eq || fieldsEq P fs.toList)
  | .array n e, .array n' e' => n == n' && e == e'
  | .map k e, .map k' e' => k == k' && e == e'
  | .pointer e, .ptr e' => e == e'
  | .func _ _ _, .func => true
  | .interface _, .iface => true
  | _, .other => true
  | _, _ => false
theorem shB_ok {P : Program} {u : TypeDesc} {d : Sh} (h : shB P u d = true) : shOK P u d := by
  unfold shB at h
  split at h
  · exact kindEq_eq h
  · trivial
  · trivial
  · exact beq_iff_eq.1 h
  · simp only [Bool.and_eq_true, Bool.or_eq_true, Bool.not_eq_true'] at h
    refine ⟨fieldsB_ok h.1, fun e => ?_⟩
    rcases h.2 with h2 | h2
    · rw [h2] at e; cases e
    · exact h2
  · simp only [Bool.and_eq_true, beq_iff_eq] at h; exact h
  · simp only [Bool.and_eq_true, beq_iff_eq] at h; exact h
  · exact beq_iff_eq.1 h
  · trivial
  · trivial
  · unfold shOK; split <;> trivial
  · cases h
def tyB (P : Program) (t : TypeId) (d : TyD) : Bool :=
  match P.info? t, P.underlying t with
  | some i, some u => i.size == d.size && i.bytes == d.bytes && (match i.zero with
    | some z => valEq z d.zero
    | none => false) && descAgg u == d.isAgg && shB P u d.sh && d.zero.cells.size == d.size
  | _, _ => false
theorem tyB_ok {P : Program} {t : TypeId} {d : TyD} (h : tyB P t d = true) : TyOK P t d := by
  unfold tyB at h
  split at h
  · rename_i i u hi hu
    simp only [Bool.and_eq_true, beq_iff_eq] at h
    obtain ⟨⟨⟨⟨⟨h1, h2⟩, h3⟩, h4⟩, h5⟩, h6⟩ := h
    split at h3
    · rename_i z hz
      exact ⟨i, u, hi, hu, h1, h2, by rw [hz, valEq_eq h3], h4, shB_ok h5, h6⟩
    · cases h3
  · cases h
def tysB (P : Program) : Nat → List (Option TyD) → Bool
  | _, [] => true
  | t, none :: l => tysB P (t + 1) l
  | t, some d :: l => tyB P t d && tysB P (t + 1) l
theorem tysB_ok {P : Program} : ∀ {l : List (Option TyD)} {k : Nat}, tysB P k l = true → ∀ t d, l[t]? = some (some d) → TyOK P (k + t) d
  | [], _, _, t, d, e => by simp at e
  | none :: l, k, h, 0, d, e => by simp at e
  | none :: l, k, h, t + 1, d, e => by
    have := tysB_ok (l := l) (k := k + 1) h t d (by simpa using e)
    rwa [show k + 1 + t = k + (t + 1) from by omega] at this
  | some d' :: l, k, h, 0, d, e => by
    simp only [tysB, Bool.and_eq_true] at h
    simp only [List.getElem?_cons_zero, Option.some.injEq] at e
    subst e
    exact tyB_ok h.1
  | some d' :: l, k, h, t + 1, d, e => by
    simp only [tysB, Bool.and_eq_true] at h
    have := tysB_ok (l := l) (k := k + 1) h.2 t d (by simpa using e)
    rwa [show k + 1 + t = k + (t + 1) from by omega] at this

def tyAt : List (Option TyD) → Nat → Option TyD
  | [], _ => none
  | d :: _, 0 => d
  | _ :: l, t + 1 => tyAt l t
theorem tyAt_get : ∀ {l : List (Option TyD)} {t : Nat} {d : TyD}, tyAt l t = some d → l[t]? = some (some d)
  | [], _, _, h => by simp [tyAt] at h
  | x :: _, 0, d, h => by simp only [tyAt] at h; simp [h]
  | _ :: l, t + 1, d, h => by simp only [tyAt] at h; simpa using tyAt_get h

def fnB (P : Program) (f : FuncId) : Bool :=
  match P.funcs[f]? with
  | some d => !d.body.isNone && !(d.name == "runtime.NumGoroutine")
  | none => false
def fnsB (P : Program) (mask : Nat) : Nat → Bool
  | 0 => true
  | k + 1 => (!mask.testBit k || fnB P k) && fnsB P mask k
theorem fnsB_ok {P : Program} {mask : Nat} : ∀ {k : Nat}, fnsB P mask k = true → ∀ f, f < k → mask.testBit f = true → fnB P f = true
  | 0, _, f, hf, _ => by omega
  | k + 1, h, f, hf, hm => by
    simp only [fnsB, Bool.and_eq_true, Bool.or_eq_true, Bool.not_eq_true'] at h
    rcases Nat.lt_or_eq_of_le (Nat.lt_succ_iff.1 hf) with hlt | rfl
    · exact fnsB_ok h.2 f hlt hm
    · rcases h.1 with e | e
      · rw [e] at hm; cases hm
      · exact e

def eqB (P : Program) (t : TypeId) (l : List (Nat × PK)) : Bool :=
  !P.stoodInHeld t && !P.eqGuardType P.depth t && (match P.underlying t with
    | some (.struct fs) => eqFsB P fs.toList l
    | _ => false)
theorem eqB_ok {P : Program} {t : TypeId} {l : List (Nat × PK)} (h : eqB P t l = true) : EqOK P t l := by
  unfold eqB at h
  simp only [Bool.and_eq_true, Bool.not_eq_true'] at h
  obtain ⟨⟨h1, h2⟩, h3⟩ := h
  split at h3
  · rename_i fs hfs; exact ⟨h1, h2, fs, hfs, h3⟩
  · cases h3
def eqsB (P : Program) : List (Nat × List (Nat × PK)) → Bool
  | [] => true
  | (t, l) :: r => eqB P t l && eqsB P r
def eqAt : List (Nat × List (Nat × PK)) → Nat → Option (List (Nat × PK))
  | [], _ => none
  | (u, l) :: r, t => match Nat.beq u t with
    | true => some l
    | false => eqAt r t
theorem eqsB_ok {P : Program} : ∀ {r : List (Nat × List (Nat × PK))}, eqsB P r = true → ∀ t l, eqAt r t = some l → EqOK P t l
  | [], _, t, l, e => by simp [eqAt] at e
  | (u, l') :: r, h, t, l, e => by
    simp only [eqsB, Bool.and_eq_true] at h
    simp only [eqAt] at e
    split at e
    · rename_i hu
      have := Nat.eq_of_beq_eq_true hu
      subst this
      cases e
      exact eqB_ok h.1
    · exact eqsB_ok h.2 t l e

/-- The context out of what is computed. -/
def mkCx (P : Program) (tys : List (Option TyD)) (mask k : Nat) (es : List (Nat × List (Nat × PK))) (ht : tysB P 0 tys = true) (hf : fnsB P mask k = true) (ho : P.follows .mixedOrders = true) (he : eqsB P es = true) : Cx where
  P := P
  ty := tyAt tys
  fn := fun f => Nat.blt f k && mask.testBit f
  ty_ok := fun t d h => by have := tysB_ok ht t d (tyAt_get h); rwa [Nat.zero_add] at this
  fn_ok := fun f h => by
    simp only [Bool.and_eq_true, Nat.blt_eq] at h
    have := fnsB_ok hf f h.1 h.2
    unfold fnB at this
    split at this
    · rename_i d hd
      simp only [Bool.and_eq_true, Bool.not_eq_true'] at this
      exact ⟨d, hd, this.1, this.2⟩
    · cases this
  orders := ho
  eqs := eqAt es
  eq_ok := eqsB_ok he

end Go.Proofs.Hk

import Derived.Calls
import Derived.Test.YtmgcmljldggllaaH1
set_option linter.unusedSimpArgs false
set_option linter.unusedVariables false
namespace Go.Proofs.Hk
open Go

/-! Types, as far as they are asked. -/
inductive Sh where
  | int (k : IntKind)
  | bool
  | string
  | slice (elem : TypeId)
  | struct (fs : List (Nat × Nat × Bool)) (eq : Bool)
  | array (n : Nat) (elem : TypeId)
  | map (key elem : TypeId)
  | ptr (elem : TypeId)
  | func
  | iface
  | other
structure TyD where
  size : Nat
  bytes : Nat
  isAgg : Bool
  zero : Value
  sh : Sh

def descAgg : TypeDesc → Bool
  | .struct _ => true
  | .array _ _ => true
  | _ => false
/-- A type that '==' may be asked of, part by part. -/
def descPlain : TypeDesc → Bool
  | .int _ => true
  | .bool => true
  | .string => true
  | _ => false
def fieldsOK (P : Program) : List Field → List (Nat × Nat × Bool) → Prop
  | [], l => l = []
  | f :: fs, l => ∃ o s b l', l = (o, s, b) :: l' ∧ f.offset = o ∧ (∃ i u, P.info? f.type = some i ∧ P.underlying f.type = some u ∧ i.size = s ∧ descAgg u = b) ∧ fieldsOK P fs l'
def fieldsEq (P : Program) : List Field → Bool
  | [] => true
  | f :: fs => (f.name != "_") && ((P.underlying f.type).any descPlain) && fieldsEq P fs
def shOK (P : Program) : TypeDesc → Sh → Prop
  | .int k, .int k' => k = k'
  | .bool, .bool => True
  | .string, .string => True
  | .slice e, .slice e' => e = e'
  | .struct fs, .struct l eq => fieldsOK P fs.toList l ∧ (eq = true → fieldsEq P fs.toList = true)
  | .array n e, .array n' e' => n = n' ∧ e = e'
  | .map k e, .map k' e' => k = k' ∧ e = e'
  | .pointer e, .ptr e' => e = e'
  | .func _ _ _, .func => True
  | .interface _, .iface => True
  | _, .other => True
  | _, _ => False
def TyOK (P : Program) (t : TypeId) (d : TyD) : Prop :=
  ∃ i u, P.info? t = some i ∧ P.underlying t = some u ∧ i.size = d.size ∧ i.bytes = d.bytes ∧ i.zero = some d.zero ∧ descAgg u = d.isAgg ∧ shOK P u d.sh ∧ d.zero.cells.size = d.size

/-- Sorts of fields that '==' compares at once. -/
inductive PK where
  | int
  | bool
  | string
def pkOf : TypeDesc → PK → Bool
  | .int _, .int => true
  | .bool, .bool => true
  | .string, .string => true
  | _, _ => false
def eqFsB (P : Program) : List Field → List (Nat × PK) → Bool
  | [], [] => true
  | f :: fs, (o, k) :: l => (f.name != "_") && (f.offset == o) && ((P.underlying f.type).any fun u => pkOf u k) && eqFsB P fs l
  | _, _ => false
/-- What '==' of a struct comes to is known. -/
def EqOK (P : Program) (t : TypeId) (l : List (Nat × PK)) : Prop :=
  P.stoodInHeld t = false ∧ P.eqGuardType P.depth t = false ∧ ∃ fs, P.underlying t = some (.struct fs) ∧ eqFsB P fs.toList l = true

/-- A program, with what is known of its types and functions. -/
structure Cx where
  P : Program
  ty : Nat → Option TyD
  fn : Nat → Bool
  ty_ok : ∀ t d, ty t = some d → TyOK P t d
  fn_ok : ∀ f, fn f = true → ∃ d, P.funcs[f]? = some d ∧ d.body.isNone = false ∧ (d.name == "runtime.NumGoroutine") = false
  orders : P.follows .mixedOrders = true
  eqs : Nat → Option (List (Nat × PK))
  eq_ok : ∀ t l, eqs t = some l → EqOK P t l

/-! Frames. -/
inductive Tag where
  | sure
  | cond (b : Bool)
abbrev Fr := List (Nat × Tag × HV)
def Fr.get : Fr → Nat → Option (Tag × HV)
  | [], _ => none
  | (t, g, x) :: a, u => match Nat.beq t u with
    | true => some (g, x)
    | false => Fr.get a u
def ev (a : Fr) : Operand → Option (Tag × HV)
  | .tmp t => a.get t
  | .const v => match v with
    | .agg _ => none
    | .tuple _ => none
    | v => some (.sure, .v v)
  | .func f => some (.sure, .fn (.func f) [] [])
  | .global _ => none

def tagRel (G : Ghost) (g : Tag) (x : HV) (u : Value) : Prop :=
  match g with
  | .sure => rel G x u
  | .cond b => (b = true → rel G x u) ∧ (b = false → u = undef)
structure FRel (G : Ghost) (n : Nat) (a : Fr) (ra : Act) : Prop where
  size : ra.tmps.size = n
  defers : ra.defers = []
  slots : ∀ t g x, a.get t = some (g, x) → t < n ∧ tagRel G g x (ra.tmps.getD t undef)

/-- A list whose spine is laid open first. -/
def forceL {α : Type} {β : Sort _} : List α → (List α → β) → β
  | [], k => k []
  | x :: xs, k => forceL xs fun ys => k (x :: ys)
theorem forceL_eq {α : Type} {β : Sort _} : ∀ (l : List α) (k : List α → β), forceL l k = k l
  | [], _ => rfl
  | x :: xs, k => by rw [forceL, forceL_eq xs]

/-! Operations. -/
/-- What is asked beside what goes on. -/
structure Side (φ K : Prop) : Prop where
  side : φ
  k : K
/-- Two ways. -/
structure Br (b : Bool) (X Y : Prop) : Prop where
  yes : b = true → X
  no : b = false → Y
inductive OpRes where
  | bad
  | pure (x : HV)
  | val (φ : Prop) (x : HV)
  | call (φ : Prop) (f : FuncId) (args : List HV)
  | pan (φ : Prop) (x : HV)
  | eff (W : (HV → HS → Prop) → Prop)
  | look (r : Nat) (k : Res → OpRes)
def OpRes.need (φ : Prop) : OpRes → OpRes
  | .bad => .bad
  | .pure x => .val φ x
  | .val ψ x => .val (φ ∧ ψ) x
  | .call ψ f l => .call (φ ∧ ψ) f l
  | .pan ψ x => .pan (φ ∧ ψ) x
  | .eff W => .eff fun K => Side φ (W K)
  | .look r k => .look r fun x => (k x).need φ
def arg (a : Fr) (x : Operand) (k : HV → OpRes) : OpRes :=
  match ev a x with
  | none => .bad
  | some (.sure, v) => k v
  | some (.cond b, v) => (k v).need (b = true)
def argsM (a : Fr) : List Operand → (List HV → OpRes) → OpRes
  | [], k => k []
  | x :: xs, k => arg a x fun v => argsM a xs fun vs => k (v :: vs)

def strEq (a b : ByteArray) : Bool := a.toList == b.toList

def kindEq : IntKind → IntKind → Bool
  | .i8, .i8 => true | .i16, .i16 => true | .i32, .i32 => true | .i64, .i64 => true
  | .u8, .u8 => true | .u16, .u16 => true | .u32, .u32 => true | .u64, .u64 => true
  | _, _ => false
theorem kindEq_eq {a b : IntKind} (h : kindEq a b = true) : a = b := by cases a <;> cases b <;> first | rfl | simp [kindEq] at h

def hint (op : BinOp) (k : IntKind) (a b : Int) : OpRes :=
  match op with
  | .add => .pure (.v (.int k (k.wrap (a + b))))
  | .sub => .pure (.v (.int k (k.wrap (a - b))))
  | .mul => .pure (.v (.int k (k.wrap (a * b))))
  | .quo => .val (b ≠ 0) (.v (.int k (k.wrap (a.tdiv b))))
  | .rem => .val (b ≠ 0) (.v (.int k (a.tmod b)))
  | .and => .pure (.v (.int k (k.wrap (BitVec.ofInt k.bits a &&& BitVec.ofInt k.bits b).toNat)))
  | .or => .pure (.v (.int k (k.wrap (BitVec.ofInt k.bits a ||| BitVec.ofInt k.bits b).toNat)))
  | .xor => .pure (.v (.int k (k.wrap (BitVec.ofInt k.bits a ^^^ BitVec.ofInt k.bits b).toNat)))
  | .eql => .pure (.v (.bool (a == b)))
  | .neq => .pure (.v (.bool (a != b)))
  | .lss => .pure (.v (.bool (decide (a < b))))
  | .leq => .pure (.v (.bool (decide (a ≤ b))))
  | .gtr => .pure (.v (.bool (decide (a > b))))
  | .geq => .pure (.v (.bool (decide (a ≥ b))))
  | _ => .bad
def hstr (op : BinOp) (a b : ByteArray) : OpRes :=
  match op with
  | .add => .val (((a.size + b.size : Nat) : Int) ≤ 9223372036854775807) (.v (.string (a ++ b)))
  | .eql => .pure (.v (.bool (strEq a b)))
  | .neq => .pure (.v (.bool (!strEq a b)))
  | _ => .bad
def hbin (op : BinOp) (x y : HV) : OpRes :=
  match x, y with
  | .v (.int k a), .v (.int k' b) =>
    match op with
    | .shl => .val (0 ≤ b) (.v (.int k (k.wrap (a * 2 ^ (min b.toNat k.bits)))))
    | .shr => .val (0 ≤ b) (.v (.int k (a.fdiv (2 ^ (min b.toNat k.bits)))))
    | op => match kindEq k k' with
      | true => hint op k a b
      | false => .bad
  | .v (.string a), .v (.string b) => hstr op a b
  | _, _ => .bad

/-- A part of a struct. -/
def hpart (l : List HV) (o s : Nat) (agg : Bool) : OpRes :=
  match agg with
  | true => match Nat.ble (o + s) l.length with
    | true => forceL ((l.drop o).take s) fun l => .pure (.agg l)
    | false => .bad
  | false => match l[o]? with
    | some x => .pure x
    | none => .bad

def HV.cells : HV → List HV
  | .agg l => l
  | x => [x]

def hget (s : HS) (r : Nat) : Option Res :=
  match s with
  | [] => none
  | (q, x) :: s => if q = r then some x else hget s r
def hset (s : HS) (r : Nat) (y : Res) : HS :=
  match s with
  | [] => []
  | (q, x) :: s => if q = r then (q, y) :: s else (q, x) :: hset s r y

theorem hget_nil (r : Nat) : hget [] r = none := rfl
theorem hget_cons (q : Nat) (x : Res) (s : HS) (r : Nat) : hget ((q, x) :: s) r = if q = r then some x else hget s r := rfl
theorem hset_nil (r : Nat) (y : Res) : hset [] r y = [] := rfl
theorem hset_cons (q : Nat) (x : Res) (s : HS) (r : Nat) (y : Res) : hset ((q, x) :: s) r y = if q = r then (q, y) :: s else (q, x) :: hset s r y := rfl
attribute [irreducible] hget hset

def kdOk : HV → Bool
  | .tup _ => false
  | _ => true
def kdOne : HV → Bool
  | .agg _ => false
  | .tup _ => false
  | _ => true
def kdAgg : HV → Bool
  | .agg _ => true
  | _ => false
theorem kdOk_ne {x : HV} (h : kdOk x = true) : x.kd ≠ .tup := by cases x <;> simp_all [kdOk, HV.kd]
theorem kdOne_eq {x : HV} (h : kdOne x = true) : x.kd = .one := by cases x <;> simp_all [kdOne, HV.kd]
theorem kdAgg_eq {x : HV} (h : kdAgg x = true) : x.kd = .agg := by cases x <;> simp_all [kdAgg, HV.kd]

/-- Loads: of memory that never changes, of an object. -/
def hload (c : Cx) (t : TypeId) (p : HV) : OpRes :=
  match c.ty t with
  | none => .bad
  | some d => match p with
    | .cptr x => match d.isAgg with
      | true => .val ((kdAgg x && Nat.beq x.cells.length d.size) = true) x
      | false => .val (kdOne x = true) x
    | .ptr r off => .look r fun
      | .cells cs _ => match d.isAgg with
        | true => match Nat.ble (off + d.size) cs.length with
          | true => forceL ((cs.drop off).take d.size) fun l => .pure (.agg l)
          | false => .bad
        | false => match cs[off]? with
          | some x => .val (kdOne x = true) x
          | none => .bad
      | _ => .bad
    | _ => .bad

def hstore (c : Cx) (s : HS) (t : TypeId) (p x : HV) : OpRes :=
  match c.ty t with
  | none => .bad
  | some d => match p with
    | .ptr r off => .look r fun
      | .cells cs t' => match kdOk x && Nat.beq x.cells.length d.size && Nat.ble (off + d.size) cs.length with
        | true => forceL (cs.take off ++ x.cells ++ cs.drop (off + d.size)) fun l => .eff fun K => K (.tup []) (hset s r (.cells l t'))
        | false => .bad
      | _ => .bad
    | _ => .bad

def hnew (s : HS) (t : TypeId) (x : HV) : OpRes :=
  match kdOk x with
  | true => forceL x.cells fun l => .eff fun K => ∀ r, r ∉ keys s → K (.ptr r 0) ((r, .cells l t) :: s)
  | false => .bad
def vOne : Value → Bool
  | .agg _ => false
  | .tuple _ => false
  | _ => true

def hzero (c : Cx) (t : TypeId) : Option HV :=
  match c.ty t with
  | none => none
  | some d => match d.zero with
    | .agg cs => match cs.toList.all vOne with
      | true => some (.agg (cs.toList.map .v))
      | false => none
    | .tuple _ => none
    | v => some (.v v)

/-- A struct out of its parts. -/
def hfill (fs : List (Nat × Nat × Bool)) : List (Nat × HV) → List HV → Option (List HV)
  | [], l => some l
  | (i, x) :: rest, l => match fs[i]? with
    | none => none
    | some (o, s, _) => match Nat.beq x.cells.length s with
      | false => none
      | true => match kdOk x with
        | true => match Nat.ble (o + s) l.length with
          | true => hfill fs rest (l.take o ++ x.cells ++ l.drop (o + s))
          | false => none
        | false => none
end Go.Proofs.Hk

import Derived.Calls
import Derived.Test.YtmgcmljldggllaaH2
set_option linter.unusedSimpArgs false
set_option linter.unusedVariables false
namespace Go.Proofs.Hk
open Go

/-- A bound of a slice expression; hi: what it may be at most. -/
def hbound (x : Option HV) (dflt : Nat) (k : Prop → Nat → OpRes) : OpRes :=
  match x with
  | none => k True dflt
  | some (.v (.int _ n)) => k (0 ≤ n) n.toNat
  | _ => .bad
def argO (a : Fr) (x : Option Operand) (k : Option HV → OpRes) : OpRes :=
  match x with
  | none => k none
  | some x => arg a x fun v => k (some v)

/-- The end of a row that is cut: who may append to it then. -/
def Tok.cut (t : Tok) (lo : Nat) (whole : Bool) (most : Bool) : Tok :=
  match most with
  | true => .full
  | false => match t with
    | .own i st => .own i (st + lo)
    | .full => match whole with
      | true => .full
      | false => .no
    | .no => .no

def hslice (c : Cx) (t : TypeId) (x : HV) (lo hi mx : Option HV) : OpRes :=
  match c.ty t with
  | some ⟨_, _, _, _, .string⟩ => match x, mx with
    | .v (.string s), none => hbound hi s.size fun p2 h => hbound lo 0 fun p1 l => .val (p1 ∧ p2 ∧ l ≤ h ∧ h ≤ s.size) (.v (.string (s.extract l h)))
    | _, _ => .bad
  | some ⟨_, _, _, _, .slice e⟩ => match c.ty e with
    | none => .bad
    | some d => match x with
      | .list t sz xs => match Nat.beq sz d.size with
        | false => .bad
        | true => match mx with
          | none => hbound lo 0 fun p1 l => match hi with
            | none => .val (p1 ∧ l ≤ xs.length) (.list (t.cut l true false) sz (xs.drop l))
            | some hi => hbound (some hi) 0 fun p2 h => .val (p1 ∧ p2 ∧ l ≤ h ∧ h ≤ xs.length) (.list (t.cut l false false) sz ((xs.take h).drop l))
          | some mx => match hi with
            | none => .bad
            | some hi => hbound (some mx) 0 fun p3 m => hbound (some hi) 0 fun p2 h => hbound lo 0 fun p1 l => .val (p1 ∧ p2 ∧ p3 ∧ l ≤ h ∧ m = h ∧ h ≤ xs.length) (.list (t.cut l false true) sz ((xs.take h).drop l))
      | .arr r off len cap sz => match mx with
        | none => match Nat.beq sz d.size with
          | false => .bad
          | true => hbound hi len fun p2 h => hbound lo 0 fun p1 l => .val (p1 ∧ p2 ∧ l ≤ h ∧ h ≤ len ∧ l < cap ∧ len ≤ cap) (.arr r (off + l * sz) (h - l) (cap - l) sz)
        | some _ => .bad
      | _ => .bad
  | _ => .bad

def hindexAddr (c : Cx) (t : TypeId) (x i : HV) : OpRes :=
  match c.ty t with
  | some ⟨_, _, _, _, .slice e⟩ => match c.ty e with
    | none => .bad
    | some d => match i with
      | .v (.int _ n) => match x with
        | .list _ sz l => .val (0 ≤ n ∧ n < l.length ∧ sz = d.size) (.cptr (l.getD n.toNat default))
        | .arr r off len _ sz => .val (0 ≤ n ∧ n < len ∧ sz = d.size) (.ptr r (off + n.toNat * sz))
        | _ => .bad
      | _ => .bad
  | _ => .bad

def byteAt (s : ByteArray) (n : Int) : Int := ((s.data.toList.getD n.toNat 0).toNat : Int)
def hindex (c : Cx) (t : TypeId) (x i : HV) : OpRes :=
  match c.ty t with
  | some ⟨_, _, _, _, .string⟩ => match x, i with
    | .v (.string s), .v (.int _ n) => .val (0 ≤ n ∧ n < s.size) (.v (.int .u8 (byteAt s n)))
    | _, _ => .bad
  | _ => .bad

def hfieldAddr (c : Cx) (t : TypeId) (x : HV) (f : Nat) : OpRes :=
  match c.ty t with
  | some ⟨_, _, _, _, .struct fs _⟩ => match fs[f]? with
    | none => .bad
    | some (o, s, agg) => match Nat.beq s 0 with
      | true => .bad
      | false => match x with
        | .ptr r off => .pure (.ptr r (off + o))
        | .cptr x => match agg with
          | true => .val ((kdAgg x && Nat.ble (o + s) x.cells.length) = true) (.cptr (.agg ((x.cells.drop o).take s)))
          | false => match x.cells[o]? with
            | some y => .val ((kdAgg x && kdOne y && Nat.beq s 1) = true) (.cptr y)
            | none => .bad
        | _ => .bad
  | _ => .bad
def hfield (c : Cx) (t : TypeId) (x : HV) (f : Nat) : OpRes :=
  match c.ty t with
  | some ⟨_, _, _, _, .struct fs _⟩ => match fs[f]? with
    | none => .bad
    | some (o, s, agg) => match x with
      | .agg l => hpart l o s agg
      | _ => .bad
  | _ => .bad

def hbuild (c : Cx) (t : TypeId) (parts : List (Nat × HV)) : OpRes :=
  match c.ty t with
  | some ⟨_, _, _, .agg cs, .struct fs _⟩ => match (match cs.toList.all vOne with | true => hfill fs parts (cs.toList.map .v) | false => none) with
    | some l => forceL l fun l => .pure (.agg l)
    | none => .bad
  | _ => .bad

/-- All parts, in order. -/
def inOrder : List (Nat × HV) → Nat → Option (List HV)
  | [], _ => some []
  | (i, x) :: rest, k => match Nat.beq i k with
    | true => match inOrder rest (k + 1) with
      | some l => some (x :: l)
      | none => none
    | false => none
def allCells (sz : Nat) : List HV → Bool
  | [] => true
  | x :: xs => Nat.beq x.cells.length sz && kdOk x && allCells sz xs
def hbuildSlice (c : Cx) (t : TypeId) (n : Nat) (parts : List (Nat × HV)) : OpRes :=
  match c.ty t with
  | some ⟨_, _, _, _, .slice e⟩ => match c.ty e with
    | none => .bad
    | some d => match inOrder parts 0 with
      | none => .bad
      | some l => match Nat.beq l.length n && allCells d.size l && Nat.ble (n * d.size) 16777216 with
        | true => .pure (.list .full d.size l)
        | false => .bad
  | _ => .bad

/-- What is appended, element by element. -/
def hmore (d : TyD) (y : HV) : Option (List HV) :=
  match y with
  | .list _ sz l => match Nat.beq sz d.size with
    | true => some l
    | false => none
  | .v (.slice none 0 0) => some []
  | .v (.string s) => match Nat.beq d.size 1 with
    | true => some (s.data.toList.map fun b => .v (.int .u8 b.toNat))
    | false => none
  | _ => none
def isRow (c : Cx) (t : TypeId) : Bool :=
  match c.ty t with
  | some ⟨_, _, _, _, .slice _⟩ => true
  | some ⟨_, _, _, _, .string⟩ => true
  | _ => false
def sliceElem (c : Cx) (t : TypeId) : Option TyD :=
  match c.ty t with
  | some ⟨_, _, _, _, .slice e⟩ => c.ty e
  | _ => none

def leafEqV : PK → HV → HV → Option Bool
  | .int, .v (.int k a), .v (.int k' b) => match kindEq k k' with
    | true => some (a == b)
    | false => none
  | .bool, .v (.bool a), .v (.bool b) => some (a == b)
  | .string, .v (.string a), .v (.string b) => some (strEq a b)
  | _, _, _ => none
def fieldsV (xs ys : List HV) : List (Nat × PK) → Option Bool
  | [] => some true
  | (o, k) :: l => match xs[o]?, ys[o]? with
    | some x, some y => match leafEqV k x y, fieldsV xs ys l with
      | some e, some r => some (e && r)
      | _, _ => none
    | _, _ => none
/-- '==' of structs. -/
def hstructEq (c : Cx) (op : BinOp) (t : TypeId) (xs ys : List HV) : OpRes :=
  match c.eqs t with
  | none => .bad
  | some l => match fieldsV xs ys l with
    | none => .bad
    | some r => match op with
      | .eql => .pure (.v (.bool r))
      | .neq => .pure (.v (.bool (!r)))
      | _ => .bad
def sliceElemT (c : Cx) (t : TypeId) : Option TypeId :=
  match c.ty t with
  | some ⟨_, _, _, _, .slice e⟩ => some e
  | _ => none
/-- A slice held against nil: an empty one may be nil, or not. -/
def hnil (c : Cx) (s : HS) (op : BinOp) (t : TypeId) (e : Prop) : OpRes :=
  match sliceElemT c t with
  | none => .bad
  | some _ => match op with
    | .eql => .eff fun K => ∀ b : Bool, (b = true → e) → K (.v (.bool b)) s
    | .neq => .eff fun K => ∀ b : Bool, (b = false → e) → K (.v (.bool b)) s
    | _ => .bad
def hbinT (c : Cx) (s : HS) (op : BinOp) (t : TypeId) (u v : HV) : OpRes :=
  match u, v with
  | .list _ _ l, .v (.slice none 0 0) => hnil c s op t (l = [])
  | .arr _ _ _ _ _, .v (.slice none 0 0) => hnil c s op t False
  | .v (.slice none 0 0), .v (.slice none 0 0) => hnil c s op t True
  | .agg xs, .agg ys => hstructEq c op t xs ys
  | .v (.bool a), .v (.bool b) => match c.ty t with
    | some ⟨_, _, _, _, .bool⟩ => match op with
      | .eql => .pure (.v (.bool (a == b)))
      | .neq => .pure (.v (.bool (a != b)))
      | _ => .bad
    | _ => .bad
  | u, v => hbin op u v

/-- So many times the same cells. -/
def hrep (n : Nat) (l : List HV) : List HV :=
  match l with
  | [z] => List.replicate n z
  | l => (List.replicate n l).flatten
/-- A new row: to be appended to, or to be written. -/
structure Grow2 (A V : Prop) : Prop where
  out : A ∨ V
/-- A row that whoever may append to. -/
def hgrow (c : Cx) (s : HS) (t : TypeId) (d : TyD) (x : HV) (l ys : List HV) : OpRes :=
  .eff fun K => Side ((l.length + ys.length) * d.bytes ≤ 140737488355328) <| match ys with
    | [] => K x s
    | _ => Grow2 (∀ r, r ∉ keys s → K (.list (.own r 0) d.size (l ++ ys)) ((r, .tok (l.length + ys.length)) :: s))
        (∃ e z, sliceElemT c t = some e ∧ hzero c e = some z ∧ kdOk z = true ∧ ∀ r, r ∉ keys s → ∀ cap, l.length + ys.length ≤ cap → K (.arr r 0 (l.length + ys.length) cap d.size) ((r, .cells ((l ++ ys).flatMap HV.cells ++ hrep (cap - (l.length + ys.length)) z.cells) e) :: s))
def happend (c : Cx) (s : HS) (t u : TypeId) (x y : HV) : OpRes :=
  match sliceElem c t with
  | none => .bad
  | some d => match isRow c u && Nat.blt 0 d.bytes && Nat.blt 0 d.size with
    | false => .bad
    | true => match hmore d y with
      | none => .bad
      | some ys => match x with
        | .v (.slice none 0 0) => hgrow c s t d x [] ys
        | .list .full sz l => match Nat.beq sz d.size with
          | true => hgrow c s t d x l ys
          | false => .bad
        | .list (.own i st) sz l => match Nat.beq sz d.size with
          | true => .look i fun
            | .tok n =>   .eff fun K => Side (st + l.length = n) <| Side ((l.length + ys.length) * d.bytes ≤ 140737488355328) <|
                K (.list (.own i st) d.size (l ++ ys)) (hset s i (.tok (n + ys.length)))
            | _ => .bad
          | false => .bad
        | _ => .bad

def isZeroOp : Operand → Bool
  | .const (.int _ 0) => true
  | _ => false
/-- make: a row to be written; or, of length nought, one to be appended to. -/
def hmakeSlice (c : Cx) (s : HS) (t : TypeId) (own : Bool) (x y : HV) : OpRes :=
  match sliceElemT c t with
  | none => .bad
  | some e => match c.ty e, hzero c e with
    | some d, some z => match Nat.blt 0 d.size && Nat.blt 0 d.bytes && kdOk z with
      | false => .bad
      | true => match x, y with
        | .v (.int _ n), .v (.int _ m) => match own with
          | true => .eff fun K => Side (n = 0 ∧ 0 ≤ m ∧ m.toNat * d.bytes ≤ 70368744177664) <| ∀ r, r ∉ keys s → K (.list (.own r 0) d.size []) ((r, .tok 0) :: s)
          | false => .eff fun K => Side (0 ≤ n ∧ n ≤ m ∧ m.toNat * d.bytes ≤ 70368744177664) <| ∀ r, r ∉ keys s → K (.arr r 0 n.toNat m.toNat d.size) ((r, .cells (hrep m.toNat z.cells) e) :: s)
        | _, _ => .bad
    | _, _ => .bad

def hlen (c : Cx) (t : TypeId) (x : HV) : OpRes :=
  match c.ty t with
  | some ⟨_, _, _, _, .slice _⟩ => match x with
    | .list _ _ l => .pure (.v (.int .i64 (l.length : Int)))
    | .arr _ _ len _ _ => .pure (.v (.int .i64 (len : Int)))
    | .v (.slice none 0 0) => .pure (.v (.int .i64 0))
    | _ => .bad
  | some ⟨_, _, _, _, .string⟩ => match x with
    | .v (.string s) => .pure (.v (.int .i64 (s.size : Int)))
    | _ => .bad
  | _ => .bad

def hbuiltin (c : Cx) (s : HS) (b : Builtin) (ts : List TypeId) (xs : List HV) : OpRes :=
  match b, ts, xs with
  | .len, [t], [x] => hlen c t x
  | .append, [t, u], [x, y] => happend c s t u x y
  | .min, _, [.v (.int k a), .v (.int k' b)] => match kindEq k k' with
    | true => .pure (.v (.int k (if b < a then b else a)))
    | false => .bad
  | .max, _, [.v (.int k a), .v (.int k' b)] => match kindEq k k' with
    | true => .pure (.v (.int k (if a < b then b else a)))
    | false => .bad
  | _, _, _ => .bad

def hcall (c : Cx) (f : HV) (xs : List HV) : OpRes :=
  match f with
  | .fn (.func k) first caps => .call (c.fn k = true) k (first ++ xs ++ caps)
  | _ => .bad

def isU8 : HV → Bool
  | .v (.int .u8 _) => true
  | _ => false
def byteOf : HV → UInt8
  | .v (.int .u8 n) => UInt8.ofNat n.toNat
  | _ => 0
def isBytes (c : Cx) (t : TypeId) : Bool :=
  match sliceElemT c t with
  | none => false
  | some e => match c.ty e with
    | some ⟨1, _, _, _, .int .u8⟩ => true
    | _ => false
/-- Bytes as a text. -/
def hbytesStr (x : HV) : OpRes :=
  match x with
  | .v (.slice none 0 0) => .pure (.v (.string ⟨#[]⟩))
  | .list _ sz l => .val (sz = 1 ∧ l.all isU8 = true) (.v (.string ⟨(l.map byteOf).toArray⟩))
  | .arr r off len _ _ => .look r fun
    | .cells cs _ => .val (off + len ≤ cs.length ∧ ((cs.drop off).take len).all isU8 = true) (.v (.string ⟨(((cs.drop off).take len).map byteOf).toArray⟩))
    | _ => .bad
  | _ => .bad
def hconvert (c : Cx) (src dst : TypeId) (x : HV) : OpRes :=
  match c.ty dst, x with
  | some ⟨_, _, _, _, .int k⟩, .v (.int _ n) => match c.ty src with
    | some ⟨_, _, _, _, .int _⟩ => .pure (.v (.int k (k.wrap n)))
    | _ => .bad
  | some ⟨_, _, _, _, .string⟩, .v (.string b) => match c.ty src with
    | some ⟨_, _, _, _, .string⟩ => .pure (.v (.string b))
    | _ => .bad
  | some ⟨_, _, _, _, .string⟩, x => match isBytes c src with
    | true => hbytesStr x
    | false => .bad
  | _, _ => .bad

def isTrue : Operand → Bool
  | .const (.bool true) => true
  | _ => false
def isFalse : Operand → Bool
  | .const (.bool false) => true
  | _ => false
theorem isTrue_eq {x : Operand} (h : isTrue x = true) : x = .const (.bool true) := by
  unfold isTrue at h
  split at h
  · rfl
  · cases h
theorem isFalse_eq {x : Operand} (h : isFalse x = true) : x = .const (.bool false) := by
  unfold isFalse at h
  split at h
  · rfl
  · cases h

def hop (c : Cx) (o : Op) (a : Fr) (s : HS) : OpRes :=
  match o with
  | .move x | .assign x => arg a x fun v => .pure v
  | .pick b x y => arg a b fun
    | .v (.bool cb) => match ev a x, ev a y with
      | some (gx, .v (.bool p)), some (gy, .v (.bool q)) => match gx with
        | .sure => match gy with
          | .sure => match isTrue x with
            | true => .pure (.v (.bool (cb || q)))
            | false => match isFalse y with
              | true => .pure (.v (.bool (cb && p)))
              | false => .pure (.v (.bool (bif cb then p else q)))
          | .cond g => match isTrue x with
            | true => .val (cb = false → g = true) (.v (.bool (cb || q)))
            | false => .val (cb = false → g = true) (.v (.bool (bif cb then p else q)))
        | .cond g' => match gy with
          | .sure => match isFalse y with
            | true => .val (cb = true → g' = true) (.v (.bool (cb && p)))
            | false => .val (cb = true → g' = true) (.v (.bool (bif cb then p else q)))
          | .cond g => .val ((cb = true → g' = true) ∧ (cb = false → g = true)) (.v (.bool (bif cb then p else q)))
      | some (gx, x), some (gy, y) =>
        .eff fun K => Br cb (match gx with | .sure => K x s | .cond g => Side (g = true) (K x s)) (match gy with | .sure => K y s | .cond g => Side (g = true) (K y s))
      | _, _ => .bad
    | _ => .bad
  | .alloc t => match hzero c t with
    | some z => hnew s t z
    | none => .bad
  | .box t x => arg a x fun v => hnew s t v
  | .build t ps => argsM a (ps.toList.map (·.2)) fun vs => hbuild c t ((ps.toList.map (·.1)).zip vs)
  | .buildSlice t n ps => argsM a (ps.toList.map (·.2)) fun vs => hbuildSlice c t n ((ps.toList.map (·.1)).zip vs)
  | .load t p => arg a p fun p => hload c t p
  | .store t p x => arg a p fun p => arg a x fun v => hstore c s t p v
  | .nilCheck x => arg a x fun
    | .ptr r off => .pure (.ptr r off)
    | .cptr x => .pure (.cptr x)
    | .fn (.func f) fi ca => .pure (.fn (.func f) fi ca)
    | _ => .bad
  | .binOp op t x y _ => arg a x fun u => arg a y fun v => hbinT c s op t u v
  | .unOp op _ x => arg a x fun v => match op, v with
    | .not, .v (.bool b) => .pure (.v (.bool (!b)))
    | .neg, .v (.int k n) => .pure (.v (.int k (k.wrap (0 - n))))
    | _, _ => .bad
  | .convert src dst x => arg a x fun v => hconvert c src dst v
  | .makeFunc fn fi ca => argsM a fi.toList fun fi => argsM a ca.toList fun ca => .pure (.fn fn fi ca)
  | .makeSlice t x y => arg a x fun u => arg a y fun v => hmakeSlice c s t (isZeroOp x) u v
  | .slice t x lo hi mx => arg a x fun x => argO a lo fun lo => argO a hi fun hi => argO a mx fun mx => hslice c t x lo hi mx
  | .fieldAddr t x f => arg a x fun x => hfieldAddr c t x f
  | .field t x f => arg a x fun x => hfield c t x f
  | .indexAddr t x i => arg a x fun x => arg a i fun i => hindexAddr c t x i
  | .index t x i => arg a x fun x => arg a i fun i => hindex c t x i
  | .extract x i => arg a x fun
    | .tup l => match l[i]? with
      | some y => .pure y
      | none => .bad
    | _ => .bad
  | .call ⟨.value f, xs, _⟩ => arg a f fun f => argsM a xs.toList fun xs => hcall c f xs
  | .call ⟨.builtin b, xs, ts⟩ => argsM a xs.toList fun xs => hbuiltin c s b ts.toList xs
  | .makeInterface t x => arg a x fun v => match c.ty t with
    | some ⟨_, _, _, _, .iface⟩ => .bad
    | some ⟨_, _, _, _, .other⟩ => .bad
    | some _ => .pure (.iface t v)
    | none => .bad
  | .panic x => arg a x fun
    | .iface t v => .pan True (.iface t v)
    | _ => .bad
  | _ => .bad

/-! Code. -/
inductive HExit where
  | normal
  | exit (id : Nat)
  | ret
  | pan (x : HV)

def exitRel (G : Ghost) : HExit → Exit → Prop
  | .normal, .normal => True
  | .exit i, .exit j => i = j
  | .ret, .ret => True
  | .pan x, .panic ch => ∃ u, ch = [{ v := u, recovered := false }] ∧ rel G x u
  | _, _ => False

structure SemWp (P : Program) (n : Nat) (code : Code) (Q : HExit → Fr → HS → Prop) (a : Fr) (s : HS) : Prop where
  out : ∀ G w ra, SRel G s w → FRel G n a ra → code.wp P (fun e ra' w' => ∃ he a' s' G', Q he a' s' ∧ exitRel G' he e ∧ FRel G' n a' ra' ∧ Post s G w s' G' w') ra w

structure Later (p : Prop) : Prop where
  out : p

/-- A call: what it comes to. -/
structure CallWp (c : Cx) (f : FuncId) (args : List HV) (s : HS) (K : HV → HS → Prop) (E : HV → HS → Prop) : Prop where
  out : HCalls c.P f args s fun
    | .ret x, s' => K x s'
    | .pan x, s' => E x s'

/-- Is an operation carried out? -/
def active (ops : Array Oper) (a : Fr) (o : Oper) : Option Tag :=
  match o.guard with
  | none => some .sure
  | some (j, want) => match ops[j]? with
    | none => none
    | some oj => match oj.dst with
      | none => none
      | some d => match a.get d with
        | some (.sure, .v (.bool b)) => match want with
          | true => some (.cond b)
          | false => some (.cond (!b))
        | some (.cond g, .v (.bool b)) => match want with
          | true => some (.cond (g && b))
          | false => some (.cond (g && !b))
        | _ => none

def hput (n : Nat) (dst : Option Tmp) (g : Tag) (x : HV) (a : Fr) : Option Fr :=
  match dst with
  | none => some a
  | some d => match Nat.blt d n with
    | true => some ((d, g, x) :: a)
    | false => none

/-- A place of the state. -/
structure Look (s : HS) (r : Nat) (K : Res → Prop) : Prop where
  out : ∃ x, hget s r = some x ∧ K x

/-- A call that changes nothing that was there. -/
structure QCall (c : Cx) (f : FuncId) (xs : List HV) (t : HS) (x : HV) : Prop where
  out : HCalls c.P f xs t fun e s' => e = .ret x ∧ s' = t
structure QAsk (on : Prop) (c : Cx) (f : FuncId) (xs : List HV) (t : HS) (φ : Prop) (K : HV → Prop) : Prop where
  out : ∃ x, (on → φ ∧ QCall c f xs t x) ∧ K x
/-- A call that is carried out if b: one that changes nothing, or two ways. -/
structure CallC (c : Cx) (b : Bool) (f : FuncId) (xs : List HV) (s : HS) (φ : Prop) (Kc : HV → Prop) (on off : Prop) : Prop where
  out : QAsk (b = true) c f xs s φ Kc ∨ Br b (Side φ on) off

/-- What an operation's answer asks. -/
def OpRes.wp (s : HS) (K : HV → HS → Prop) (call : FuncId → List HV → Prop) (pan : HV → Prop) : OpRes → Prop
  | .bad => False
  | .pure x => K x s
  | .val φ x => Side φ (K x s)
  | .call φ f xs => Side φ (call f xs)
  | .pan φ x => Side φ (pan x)
  | .eff W => W K
  | .look r k => Look s r fun x => OpRes.wp s K call pan (k x)
/-- The same where it is carried out if b. -/
def OpRes.wpc (c : Cx) (s : HS) (b : Bool) (Kc : HV → Prop) (off : Prop) (K : HV → HS → Prop) (call : FuncId → List HV → Prop) (pan : HV → Prop) : OpRes → Prop
  | .bad => False
  | .pure x => Kc x
  | .val φ x => Side (b = true → φ) (Kc x)
  | .call φ f xs => CallC c b f xs s φ Kc (call f xs) off
  | .pan φ x => Br b (Side φ (pan x)) off
  | .eff W => Br b (W K) off
  | .look r k => Look s r fun x => OpRes.wpc c s b Kc off K call pan (k x)

def opsWp (c : Cx) (n : Nat) (all : Array Oper) (Q : HExit → Fr → HS → Prop) : List Oper → Fr → HS → Prop
  | [], a, s => Q .normal a s
  | o :: rest, a, s =>
    match active all a o with
    | none => False
    | some .sure => (hop c o.op a s).wp s (fun x s' => match hput n o.dst .sure x a with
        | none => False
        | some a' => opsWp c n all Q rest a' s') (fun f xs => CallWp c f xs s (fun x s' => match hput n o.dst .sure x a with
        | none => False
        | some a' => opsWp c n all Q rest a' s') (fun x s' => Q (.pan x) a s')) (fun x => Q (.pan x) a s)
    | some (.cond b) => (hop c o.op a s).wpc c s b (fun x => match hput n o.dst (.cond b) x a with
        | none => False
        | some a' => opsWp c n all Q rest a' s) (match hput n o.dst (.cond false) (.v undef) a with
        | none => False
        | some a' => opsWp c n all Q rest a' s) (fun x s' => match hput n o.dst .sure x a with
        | none => False
        | some a' => opsWp c n all Q rest a' s') (fun f xs => CallWp c f xs s (fun x s' => match hput n o.dst .sure x a with
        | none => False
        | some a' => opsWp c n all Q rest a' s') (fun x s' => Q (.pan x) a s')) (fun x => Q (.pan x) a s)

def hthen (next : Fr → HS → Prop) (Q : HExit → Fr → HS → Prop) : HExit → Fr → HS → Prop
  | .normal, a, s => Later (next a s)
  | e, a, s => Q e a s
def hinBlock (id : Nat) (Q : HExit → Fr → HS → Prop) : HExit → Fr → HS → Prop
  | .exit j, a, s => match Nat.beq j id with
    | true => Q .normal a s
    | false => Q (.exit j) a s
  | e, a, s => Q e a s

/-- A region whose order is drawn: see DrawWp. -/
structure DrawReg (P : Program) (n : Nat) (id : Nat) (ops : Array Oper) (Q : HExit → Fr → HS → Prop) (a : Fr) (s : HS) : Prop where
  out : SemWp P n (.region id ops true) Q a s

def hwp (c : Cx) (n : Nat) : Code → (HExit → Fr → HS → Prop) → Fr → HS → Prop
  | .skip, Q, a, s => Q .normal a s
  | .region id ops draw, Q, a, s => match draw with
    | true => DrawReg c.P n id ops Q a s
    | false => opsWp c n ops Q ops.toList a s
  | .seq x y, Q, a, s => hwp c n x (hthen (hwp c n y Q) Q) a s
  | .cond t x y, Q, a, s => match ev a t with
    | some (.sure, .v (.bool b)) => Br b (hwp c n x Q a s) (hwp c n y Q a s)
    | _ => False
  | .block id b, Q, a, s => hwp c n b (hinBlock id Q) a s
  | .exit id, Q, a, s => Q (.exit id) a s
  | .ret, Q, a, s => Q .ret a s
  | .label _, Q, a, s => Q .normal a s
  | .loop b, Q, a, s => SemWp c.P n (.loop b) Q a s
  | code, Q, a, s => SemWp c.P n code Q a s

end Go.Proofs.Hk

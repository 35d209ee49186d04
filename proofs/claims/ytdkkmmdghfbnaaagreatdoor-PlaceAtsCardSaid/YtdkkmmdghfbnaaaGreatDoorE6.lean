import Derived.Test.YtdkkmmdghfbnaaaGreatDoorE5
import Derived.Test.YtdkkmmdghfbnaaaGreatDoorM3
set_option linter.unusedVariables false
set_option linter.unusedSimpArgs false
namespace Go.Proofs.Hk
open Go
noncomputable section
/-! The machine, reckoned. -/
inductive Rs where
 |out (why:Nat) (pos:String)
 |ok (e:HExit) (a:Fr) (s:HS) (k:Nat)
 |ret (x:HV) (s:HS) (k:Nat)
 |pan (x:HV) (s:HS) (k:Nat)
inductive Task where
 |code (n:Nat) (code:Code) (a:Fr)
 |call (f:FuncId) (xs:List HV)
/-- What is known of a function without looking at its text. -/
inductive LibR where
 |val (x:HV)
 |new (x:Nat→HV) (y:Nat→Res)
 |look (r:Nat) (k:Res→Option HV)
 |turn (r:Nat) (k:Res→Option Res)
 |st (g:HS→Option (HV × HS))
def newOp:Op→Bool
 |.alloc _=>true
 |.box _ _=>true
 |.makeSlice _ _ _=>true
 |.makeMap _ _=>true
 |.call ⟨.builtin .append,_,_⟩=>true
 |_=>false
def isNone {α:Type} (x:Option α):Bool:=
 match x with
 |some _=>false
 |none=>true
def consO (x:HV):Option (List HV)→Option (List HV)
 |some xs=>some (x::xs)
 |none=>none
def sures (a:Fr):List Operand→Option (List HV)
 |[]=>some []
 |x::xs=>match cev a x with
  |some (.sure,v)=>consO v (sures a xs)
  |_=>none
/-! Operations on rows of one's own, and functions compared with nil. -/
inductive RowC where
 |no
 |val (x:HV)
 |app0 (X:Nat→HV) (Y:Nat→Res)
 |app (r:Nat) (k:Res→Option ((Nat→HV) × (Nat→Res)))
 |look (r:Nat) (k:Res→Option HV)
 |turn (r:Nat) (k:Res→Option (HV × Res))
def rElem (c:Cx) (t:TypeId):Option (TypeId × TyD):=
 match c.ty t with
 |some ⟨_,_,_,_,.slice e⟩=>match c.ty e with
  |some d=>some (e,d)
  |none=>none
 |_=>none
def rowMade (e:TypeId) (d:TyD) (n:Nat) (cs:List HV) (ys:List HV):Option ((Nat→HV) × (Nat→Res)):=
 forceN (n+ys.length) fun m=>match Nat.ble (m * d.bytes) 140737488355328 with
  |true=>forceL (cs ++ ys.flatMap HV.cells) fun zs=>some (fun v=>.row v m d.size,fun _=>.row zs d.size e)
  |false=>none
def rowOn (e:TypeId) (d:TyD) (n:Nat) (ys:List HV) (y:Res):Option ((Nat→HV) × (Nat→Res)):=
 match y with
 |.row cs sz t=>match Nat.beq sz d.size && Nat.beq t e && Nat.ble (n * d.size) cs.length with
  |true=>forceN (n * d.size) fun k=>rowMade e d n (cs.take k) ys
  |false=>none
 |_=>none
def rowNew (e:TypeId) (d:TyD) (ys:List HV):RowC:=
 match rowMade e d 0 [] ys with
 |some (X,Y)=>.app0 X Y
 |none=>.no
def rowApp (c:Cx) (t u:TypeId) (x y:HV):RowC:=
 match x with
 |.row r n sz=>match rElem c t with
  |none=>.no
  |some (e,d)=>match isRow c u && Nat.blt 0 d.bytes && Nat.blt 0 d.size && Nat.beq sz d.size with
   |false=>.no
   |true=>match hmore d y with
    |none=>.no
    |some []=>.val x
    |some (z::zs)=>.app r (rowOn e d n (z::zs))
 |.v (.slice none 0 0)=>match c.rows t with
  |false=>.no
  |true=>match rElem c t with
   |none=>.no
   |some (e,d)=>match isRow c u && Nat.blt 0 d.bytes && Nat.blt 0 d.size with
    |false=>.no
    |true=>match hmore d y with
     |some (z::zs)=>rowNew e d (z::zs)
     |_=>.no
 |_=>.no
def rowLen (c:Cx) (t:TypeId) (x:HV):RowC:=
 match x with
 |.row _ n _=>match c.ty t with
  |some ⟨_,_,_,_,.slice _⟩=>.val (.v (.int .i64 (n:Int)))
  |_=>.no
 |_=>.no
def eqlB:BinOp→Option Bool
 |.eql=>some true
 |.neq=>some false
 |_=>none
def nilCmp (c:Cx) (t:TypeId) (x y:HV):Option Bool:=
 match c.ty t with
 |some ⟨_,_,_,_,.func⟩=>match y with
  |.v .nilFunc=>match x with
   |.fn _ _ _=>some false
   |_=>none
  |_=>none
 |some ⟨_,_,_,_,.slice _⟩=>match y with
  |.v (.slice none 0 0)=>match x with
   |.list _ _ (_::_)=>some false
   |.row _ _ _=>some false
   |.v (.slice none 0 0)=>some true
   |_=>none
  |_=>none
 |some ⟨_,_,_,_,.ptr _⟩=>match y with
  |.v (.pointer none)=>match x with
   |.ptr _ _=>some false
   |.v (.pointer none)=>some true
   |_=>none
  |_=>none
 |_=>none
def funNil (c:Cx) (op:BinOp) (t:TypeId) (x y:HV):RowC:=
 match nilCmp c t x y with
 |some b=>match eqlB op with
  |some g=>.val (.v (.bool (match g with|true=>b|false=>!b)))
  |none=>.no
 |none=>.no
def rowCall (c:Cx) (b:Builtin) (ts:List TypeId) (xs:List HV):RowC:=
 match b,ts,xs with
 |.append,[t,u],[x,y]=>rowApp c t u x y
 |.len,[t],[x]=>rowLen c t x
 |_,_,_=>.no
def isRowAt (s:HS) (r:Nat):Bool:=
 match sget s r with
 |some (.row _ _ _)=>true
 |_=>false
def rowGet (d:TyD) (off:Nat) (y:Res):Option HV:=
 match y with
 |.row cs _ _=>match d.isAgg with
  |true=>match Nat.ble (off+d.size) cs.length with
   |true=>forceL ((cs.drop off).take d.size) fun l=>some (.agg l)
   |false=>none
  |false=>match cs[off]? with
   |some x=>match kdOne x with
    |true=>some x
    |false=>none
   |none=>none
 |_=>none
def rowPut (d:TyD) (off:Nat) (x:HV) (y:Res):Option (HV × Res):=
 match y with
 |.row cs sz t=>match kdOk x && Nat.beq x.cells.length d.size && Nat.ble (off+d.size) cs.length with
  |true=>forceL (cs.take off ++ x.cells ++ cs.drop (off+d.size)) fun l=>some (.tup [],.row l sz t)
  |false=>none
 |_=>none
def rowLoad (c:Cx) (isR:Nat→Bool) (t:TypeId) (p:HV):RowC:=
 match p with
 |.ptr r off=>match isR r with
  |true=>match c.ty t with
   |some d=>.look r (rowGet d off)
   |none=>.no
  |false=>.no
 |_=>.no
def rowStore (c:Cx) (isR:Nat→Bool) (t:TypeId) (p x:HV):RowC:=
 match p with
 |.ptr r off=>match isR r with
  |true=>match c.ty t with
   |some d=>.turn r (rowPut d off x)
   |none=>.no
  |false=>.no
 |_=>.no
def rowAddr (c:Cx) (t:TypeId) (x i:HV):RowC:=
 match x with
 |.row r n sz=>match rElem c t with
  |some (_,d)=>match i with
   |.v (.int _ (.ofNat m))=>match Nat.blt m n && Nat.beq sz d.size with
    |true=>forceN (m * sz) fun o=>.val (.ptr r o)
    |false=>.no
   |_=>.no
  |none=>.no
 |_=>.no
def rowOp (c:Cx) (isR:Nat→Bool) (o:Op) (a:Fr):RowC:=
 match o with
 |.call ⟨.builtin b,xs,ts⟩=>match sures a xs.toList with
  |some vs=>rowCall c b ts.toList vs
  |none=>.no
 |.binOp op t x y _=>match cev a y with
  |some (.sure,y)=>match cev a x with
   |some (.sure,x)=>funNil c op t x y
   |_=>.no
  |_=>.no
 |.load t p=>match cev a p with
  |some (.sure,p)=>rowLoad c isR t p
  |_=>.no
 |.store t p x=>match cev a p with
  |some (.sure,p)=>match cev a x with
   |some (.sure,x)=>rowStore c isR t p x
   |_=>.no
  |_=>.no
 |.indexAddr t x i=>match cev a x with
  |some (.sure,x)=>match cev a i with
   |some (.sure,i)=>rowAddr c t x i
   |_=>.no
  |_=>.no
 |_=>.no
def yldOf (o:Op) (a:Fr):Option (Nat × List HV):=
 match o with
 |.call ⟨.value f,xs,_⟩=>match cev a f with
  |some (.sure,.yld r)=>match sures a xs.toList with
   |some vs=>some (r,vs)
   |none=>none
  |_=>none
 |_=>none
def serase (s:HS) (r:Nat):HS:=List.rec [] (fun e s ih=>match Nat.beq e.1 r with|true=>s|false=>e::ih) s
theorem serase_cons (q:Nat) (x:Res) (s:HS) (r:Nat):serase ((q,x)::s) r=match Nat.beq q r with|true=>s|false=>(q,x)::serase s r:=rfl
def putN (pos:String) (g:Tag) (x:HV) (a:Fr) (n:Nat) (k:Fr→Rs):Rs:=k a
def putS (d:Tmp) (pos:String) (g:Tag) (x:HV) (a:Fr) (n:Nat) (k:Fr→Rs):Rs:=Bool.rec (.out 2 pos) (k ((d,g,x)::a)) (Nat.ble (Nat.succ d) n)
def put (n:Nat) (o:Oper) (a:Fr) (g:Tag) (x:HV) (k:Fr→Rs):Rs:=
 Option.rec (motive:=fun _=>String→Tag→HV→Fr→Nat→(Fr→Rs)→Rs) putN putS o.dst o.pos g x a n k
theorem put_eq (n:Nat) (o:Oper) (a:Fr) (g:Tag) (x:HV) (k:Fr→Rs):put n o a g x k=match hput n o.dst g x a with|some a'=>k a'|none=>.out 2 o.pos:=by
 unfold put hput
 cases o.dst with
 |none=>rfl
 |some d=>
  show (Bool.rec _ _ (Nat.blt d n):Rs)=_
  simp only
  generalize Nat.blt d n=b
  cases b<;>rfl
section
variable (n:Nat) (o:Oper) (a:Fr) (s:HS) (i:Nat)
def updB (r r':Nat) (y:Res) (x:HV) (k:Fr→HS→Rs):Rs:=Bool.rec (.out 5 o.pos) (put n o a .sure x fun a'=>forceL (sset s r y) fun s=>k a' s) (Nat.beq r' r)
def opUpd (r:Nat) (k:Fr→HS→Rs) (q:OpC):Rs:=
 match q with
 |.val x=>put n o a .sure x fun a'=>k a' s
 |.same x=>put n o a .sure x fun a'=>k a' s
 |.upd x r' y=>updB n o a s r r' y x k
 |_=>.out 6 o.pos
def opLook (r:Nat) (q:Res→OpC) (k:Fr→HS→Rs):Rs:=
 match sget s r with
 |some y=>opUpd n o a s r k (q y)
 |none=>.out 7 o.pos
end
section
variable (k:Fr→HS→Nat→Rs) (call:FuncId→List HV→HS→Nat→Rs) (n K:Nat) (o:Oper) (a:Fr) (s:HS) (i:Nat)
def oBad:Rs:=.out 9 o.pos
def oVal (x:HV) (k:Fr→HS→Nat→Rs) (call:FuncId→List HV→HS→Nat→Rs) (n K:Nat) (o:Oper) (a:Fr) (s:HS) (i:Nat):Rs:=put n o a .sure x fun a'=>k a' s i
def opCall (n:Nat) (o:Oper) (a:Fr) (k:Fr→HS→Nat→Rs) (r:Rs):Rs:=
 match r with
 |.ret x s i=>put n o a .sure x fun a'=>k a' s i
 |.pan x s i=>.ok (.pan x) a s i
 |.out w p=>.out w p
 |.ok _ _ _ _=>.out 4 o.pos
def oCall (f:FuncId) (xs:List HV) (k:Fr→HS→Nat→Rs) (call:FuncId→List HV→HS→Nat→Rs) (n K:Nat) (o:Oper) (a:Fr) (s:HS) (i:Nat):Rs:=opCall n o a k (call f xs s i)
def oPan (x:HV) (k:Fr→HS→Nat→Rs) (call:FuncId→List HV→HS→Nat→Rs) (n K:Nat) (o:Oper) (a:Fr) (s:HS) (i:Nat):Rs:=.ok (.pan x) a s i
def oUpd (_:HV) (_:Nat) (_:Res) (k:Fr→HS→Nat→Rs) (call:FuncId→List HV→HS→Nat→Rs) (n K:Nat) (o:Oper) (a:Fr) (s:HS) (i:Nat):Rs:=.out 8 o.pos
def oNew (X:Nat→HV) (Y:Nat→Res) (k:Fr→HS→Nat→Rs) (call:FuncId→List HV→HS→Nat→Rs) (n K:Nat) (o:Oper) (a:Fr) (s:HS) (i:Nat):Rs:=
 Bool.rec (.out 3 o.pos) (put n o a .sure (X i) fun a'=>forceN (Nat.succ i) fun i1=>k a' ((i,Y i)::s) i1) (Nat.ble (Nat.succ i) K && newOp o.op)
def oLook (r:Nat) (q:Res→OpC) (_:(Res→((Fr→HS→Nat→Rs)→(FuncId→List HV→HS→Nat→Rs)→Nat→Nat→Oper→Fr→HS→Nat→Rs))) (k:Fr→HS→Nat→Rs) (call:FuncId→List HV→HS→Nat→Rs) (n K:Nat) (o:Oper) (a:Fr) (s:HS) (i:Nat):Rs:=opLook n o a s r q fun a s=>k a s i
def opDo (q:OpC):Rs:=
 OpC.rec (motive:=fun _=>(Fr→HS→Nat→Rs)→(FuncId→List HV→HS→Nat→Rs)→Nat→Nat→Oper→Fr→HS→Nat→Rs)
  (fun _ _ _ _ o _ _ _=>oBad o) oVal oCall oPan oVal oUpd oNew oLook q k call n K o a s i
variable (cod:Nat→Code→Fr→HS→Nat→Rs)
/-- A round of a loop over a function. -/
def opYldEnd (r:Nat) (L:LoopR) (x:Rs):Rs:=
 match x with
 |.ok .normal _ s i=>put n o a .sure (.v (.bool true)) fun a'=>k a' ((r,.loop L)::s) i
 |.ok .ret _ s i=>put n o a .sure (.v (.bool false)) fun a'=>k a' ((r,.loop { L with pend:=some .ret})::s) i
 |.ok (.exit id) _ s i=>put n o a .sure (.v (.bool false)) fun a'=>k a' ((r,.loop { L with pend:=some (.exit id)})::s) i
 |.out w p=>.out w p
 |_=>.out 70 o.pos
def opYldBody (r:Nat) (L:LoopR) (x:Rs):Rs:=
 match x with
 |.ok .normal a2 s2 i2=>opYldEnd k n o a r L (cod L.n L.bdy a2 s2 i2)
 |.out w p=>.out w p
 |_=>.out 71 o.pos
def opYldGo (r:Nat) (vs:List HV) (L:LoopR):Rs:=
 match !L.busy && isNone L.pend && noDef L.asg && noDef L.bdy with
 |true=>match putPs L.n L.ps.toList vs L.a with
  |some a1=>opYldBody k n o a cod r L (cod L.n L.asg a1 (serase s r) i)
  |none=>.out 72 o.pos
 |false=>.out 73 o.pos
def opYld (r:Nat) (vs:List HV):Rs:=
 match sget s r with
 |some (.loop L)=>opYldGo k n o a s i cod r vs L
 |_=>.out 74 o.pos
def opAct0 (c:Cx):Rs:=
 match yldOf o.op a with
 |none=>opDo k call n K o a s i (cop c o.op a)
 |some (r,vs)=>opYld k n o a s i cod r vs
def opApp (X:Nat→HV) (Y:Nat→Res) (s:HS):Rs:=
 Bool.rec (.out 80 o.pos) (put n o a .sure (X i) fun a'=>forceN (Nat.succ (Nat.succ i)) fun i2=>k a' ((i,Y i)::s) i2) (Nat.ble (Nat.succ (Nat.succ i)) K)
def opAppOn (r:Nat) (q:Option ((Nat→HV) × (Nat→Res))):Rs:=
 match q with
 |some (X,Y)=>opApp k n K o a i X Y (serase s r)
 |none=>.out 81 o.pos
def opTurn (r:Nat) (k:Fr→HS→Nat→Rs) (q:Option (HV × Res)):Rs:=
 match q with
 |some (x,z)=>put n o a .sure x fun a'=>forceL (sset s r z) fun s=>k a' s i
 |none=>.out 83 o.pos
def opSee (k:Fr→HS→Nat→Rs) (q:Option HV):Rs:=
 match q with
 |some x=>put n o a .sure x fun a'=>k a' s i
 |none=>.out 86 o.pos
def opAct (c:Cx):Rs:=
 match rowOp c (isRowAt s) o.op a with
 |.no=>opAct0 k call n K o a s i cod c
 |.val x=>put n o a .sure x fun a'=>k a' s i
 |.app0 X Y=>opApp k n K o a i X Y s
 |.app r q=>match sget s r with
  |some y=>opAppOn k n K o a s i r (q y)
  |none=>.out 82 o.pos
 |.turn r q=>match sget s r with
  |some y=>opTurn n o a s i r k (q y)
  |none=>.out 84 o.pos
 |.look r q=>match sget s r with
  |some y=>opSee n o a s i k (q y)
  |none=>.out 85 o.pos
def opOn (c:Cx) (tg:Tag):Rs:=Bool.rec (put n o a (.cond false) (.v (.bool false)) fun a'=>k a' s i) (opAct k call n K o a s i cod c) (okTag tg)
def opTag (c:Cx) (tg:Option Tag):Rs:=
 match tg with
 |none=>.out 1 o.pos
 |some tg=>opOn k call n K o a s i cod c tg
end
def evOps (c:Cx) (n:Nat) (all:Array Oper) (K:Nat) (cod:Nat→Code→Fr→HS→Nat→Rs) (call:FuncId→List HV→HS→Nat→Rs) (l:List Oper):Fr→HS→Nat→Rs:=
 List.rec (fun a s i=>.ok .normal a s i) (fun o _ ih a s i=>opTag ih call n K o a s i cod c (active all a o)) l
/-! Names. -/
def tokN:Tok→List Nat
 |.own i _=>[i]
 |_=>[]
/-- The names that a value mentions; of a list only its first element is looked at. -/
def ments:Nat→HV→List Nat
 |0,_=>[]
 |d+1,x=>match x with
  |.v _=>[]
  |.agg l=>l.flatMap (ments d)
  |.tup l=>l.flatMap (ments d)
  |.list t _ l=>match l with
   |[]=>tokN t
   |x::_=>tokN t ++ ments d x
  |.ptr r _=>[r]
  |.cptr x=>ments d x
  |.fn _ fi ca=>fi.flatMap (ments d) ++ ca.flatMap (ments d)
  |.map r=>[r]
  |.arr r _ _ _ _=>[r]
  |.iface _ x=>ments d x
  |.yld r=>[r]
  |.row r _ _=>[r]
def resMents:Res→List Nat
 |.cells cs _=>cs.flatMap (ments 6)
 |.map es=>es.flatMap fun e=>ments 6 e.2
 |.loop L=>L.a.flatMap fun e=>ments 6 e.2.2
 |.row cs _ _=>cs.flatMap (ments 6)
 |_=>[]
def closStep (s:HS) (ih:List Nat→List Nat→List Nat) (r:Nat) (todo seen:List Nat):List Nat:=
 match memN r seen with
 |true=>ih todo seen
 |false=>match sget s r with
  |none=>ih todo seen
  |some y=>ih (resMents y ++ todo) (r::seen)
def clos (s:HS):Nat→List Nat→List Nat→List Nat
 |0,_,seen=>seen
 |_+1,[],seen=>seen
 |f+1,r::todo,seen=>closStep s (clos s f) r todo seen
def dropN (k0:Nat) (s:HS):HS:=List.rec [] (fun e _ ih=>match Nat.blt e.1 k0 with|true=>e::ih|false=>ih) s
theorem dropN_nil (k0:Nat):dropN k0 []=[]:=rfl
theorem dropN_cons (k0:Nat) (e:Nat × Res) (s:HS):dropN k0 (e::s)=match Nat.blt e.1 k0 with|true=>e::dropN k0 s|false=>dropN k0 s:=rfl
def anyGe (k0:Nat) (l:List Nat):Bool:=List.rec false (fun r _ ih=>match Nat.ble k0 r with|true=>true|false=>ih) l
/-- Does an elder object mention a younger one? -/
def elder (k0:Nat) (s:HS):Bool:=List.rec false (fun e _ ih=>match Nat.blt e.1 k0 with|true=>(match anyGe k0 (resMents e.2) with|true=>true|false=>ih)|false=>ih) s
/-- What stays of the state behind a call. -/
def gc (k0 k1:Nat) (x:HV) (s:HS):HS:=
 match Nat.beq k0 k1||anyGe k0 (ments 6 x)||elder k0 s with
 |true=>s
 |false=>dropN k0 s
mutual
/-- A value without a name. -/
def nameless:HV→Bool
 |.v _=>true
 |.agg l=>namelessL l
 |.tup l=>namelessL l
 |.list t _ l=>match t with
  |.own _ _=>false
  |_=>namelessL l
 |.ptr _ _=>false
 |.cptr x=>nameless x
 |.fn _ fi ca=>match namelessL fi with
  |true=>namelessL ca
  |false=>false
 |.map _=>false
 |.arr _ _ _ _ _=>false
 |.iface _ x=>nameless x
 |.yld _=>false
 |.row _ _ _=>false
def namelessL:List HV→Bool
 |[]=>true
 |x::l=>match nameless x with
  |true=>namelessL l
  |false=>false
end
/-! Regions whose order is drawn: A is what calls turn, B the other objects, each by itself. -/
inductive Cl where
 |q
 |rA
 |tA
 |rB (r:Nat)
 |tB (r:Nat)
inductive DR where
 |out (why:Nat) (pos:String)
 |ok (a:Fr) (A:HS) (kA:Nat) (B:HS) (kB:Nat) (cl:List (Nat × Cl))
def DR.cons (i:Nat) (cl:Cl):DR→DR
 |.out w p=>.out w p
 |.ok a A kA B kB l=>.ok a A kA B kB ((i,cl)::l)
section
variable (n:Nat) (o:Oper) (a:Fr)
def putD (g:Tag) (x:HV) (k:Fr→DR):DR:=
 match hput n o.dst g x a with
 |some a'=>k a'
 |none=>.out 12 o.pos
variable (i:Nat) (tg:Tag) (A:HS) (kA:Nat) (B:HS) (kB KB:Nat) (ih:Fr→HS→Nat→HS→Nat→DR)
def dLookB (r:Nat) (q:OpC):DR:=
 match q with
 |.val x=>putD n o a tg x fun a'=>DR.cons i (.rB r) (ih a' A kA B kB)
 |.upd x r' y=>match Nat.beq r' r with
  |true=>putD n o a tg x fun a'=>forceL (sset B r y) fun B=>DR.cons i (.tB r) (ih a' A kA B kB)
  |false=>.out 16 o.pos
 |_=>.out 17 o.pos
def dLookA (r:Nat) (q:OpC):DR:=
 match q with
 |.val x=>putD n o a tg x fun a'=>DR.cons i .rA (ih a' A kA B kB)
 |.upd x r' y=>match Nat.beq r' r with
  |true=>putD n o a tg x fun a'=>forceL (sset A r y) fun A=>DR.cons i .tA (ih a' A kA B kB)
  |false=>.out 16 o.pos
 |_=>.out 18 o.pos
def dLook (r:Nat) (q:Res→OpC):DR:=
 match sget B r with
 |some y=>dLookB n o a i tg A kA B kB ih r (q y)
 |none=>match sget A r with
  |some y=>dLookA n o a i tg A kA B kB ih r (q y)
  |none=>.out 19 o.pos
def dNew (X:Nat→HV) (Y:Nat→Res):DR:=
 match Nat.blt kB KB && newOp o.op && isNone (sget B kB) with
 |true=>putD n o a tg (X kB) fun a'=>forceN (Nat.succ kB) fun kB1=>DR.cons i (.tB kB) (ih a' A kA ((kB,Y kB)::B) kB1)
 |false=>.out 13 o.pos
def dPure (r:Rs):DR:=
 match r with
 |.ret x [] _=>match nameless x with
  |true=>putD n o a tg x fun a'=>DR.cons i .q (ih a' A kA B kB)
  |false=>.out 14 o.pos
 |.out w p=>.out w p
 |_=>.out 14 o.pos
def dTurn (r:Rs):DR:=
 match r with
 |.ret x A kA=>putD n o a tg x fun a'=>DR.cons i .tA (ih a' A kA B kB)
 |.out w p=>.out w p
 |_=>.out 15 o.pos
def dCall (call:FuncId→List HV→HS→Nat→Rs) (pure:FuncId→List HV→Rs) (f:FuncId) (xs:List HV):DR:=
 match namelessL xs with
 |true=>dPure n o a i tg A kA B kB ih (pure f xs)
 |false=>dTurn n o a i tg B kB ih (call f xs A kA)
def dDo (call:FuncId→List HV→HS→Nat→Rs) (pure:FuncId→List HV→Rs) (q:OpC):DR:=
 match q with
 |.val x=>putD n o a tg x fun a'=>DR.cons i .q (ih a' A kA B kB)
 |.same x=>putD n o a tg x fun a'=>DR.cons i .q (ih a' A kA B kB)
 |.new X Y=>dNew n o a i tg A kA B kB KB ih X Y
 |.call f xs=>dCall n o a i tg A kA B kB ih call pure f xs
 |.look r q=>dLook n o a i tg A kA B kB ih r q
 |.upd _ _ _=>.out 22 o.pos
 |.pan _=>.out 20 o.pos
 |.bad=>.out 21 o.pos
end
section
variable (n:Nat) (o:Oper) (a:Fr) (i:Nat) (tg:Tag) (A:HS) (kA:Nat) (B:HS) (kB:Nat) (ih:Fr→HS→Nat→HS→Nat→DR)
def dSeeB (r:Nat) (q:Option HV):DR:=
 match q with
 |some x=>putD n o a tg x fun a'=>DR.cons i (.rB r) (ih a' A kA B kB)
 |none=>.out 87 o.pos
def dSeeA (q:Option HV):DR:=
 match q with
 |some x=>putD n o a tg x fun a'=>DR.cons i .rA (ih a' A kA B kB)
 |none=>.out 88 o.pos
def dPutB (r:Nat) (q:Option (HV × Res)):DR:=
 match q with
 |some (x,z)=>putD n o a tg x fun a'=>forceL (sset B r z) fun B=>DR.cons i (.tB r) (ih a' A kA B kB)
 |none=>.out 89 o.pos
def dPutA (r:Nat) (q:Option (HV × Res)):DR:=
 match q with
 |some (x,z)=>putD n o a tg x fun a'=>forceL (sset A r z) fun A=>DR.cons i .tA (ih a' A kA B kB)
 |none=>.out 90 o.pos
def dAppGo (KA:Nat) (X:Nat→HV) (Y:Nat→Res) (A:HS):DR:=
 match Nat.ble (Nat.succ (Nat.succ kA)) KA with
 |true=>putD n o a tg (X kA) fun a'=>forceN (Nat.succ (Nat.succ kA)) fun kA2=>DR.cons i .tA (ih a' ((kA,Y kA)::A) kA2 B kB)
 |false=>.out 94 o.pos
def dAppOn (KA r:Nat) (q:Option ((Nat→HV) × (Nat→Res))):DR:=
 match q with
 |some (X,Y)=>dAppGo n o a i tg kA B kB ih KA X Y (serase A r)
 |none=>.out 95 o.pos
def dRow (KA:Nat) (q:RowC) (rest:DR):DR:=
 match q with
 |.no=>rest
 |.app0 X Y=>dAppGo n o a i tg kA B kB ih KA X Y A
 |.app r q=>match sget A r with
  |some y=>dAppOn n o a i tg A kA B kB ih KA r (q y)
  |none=>.out 96 o.pos
 |.val x=>putD n o a tg x fun a'=>DR.cons i .q (ih a' A kA B kB)
 |.look r q=>match sget B r with
  |some y=>dSeeB n o a i tg A kA B kB ih r (q y)
  |none=>match sget A r with
   |some y=>dSeeA n o a i tg A kA B kB ih (q y)
   |none=>.out 91 o.pos
 |.turn r q=>match sget B r with
  |some y=>dPutB n o a i tg A kA B kB ih r (q y)
  |none=>match sget A r with
   |some y=>dPutA n o a i tg A kA B kB ih r (q y)
   |none=>.out 92 o.pos
end
def dTag (c:Cx) (n KA KB:Nat) (call:FuncId→List HV→HS→Nat→Rs) (pure:FuncId→List HV→Rs) (o:Oper) (i:Nat) (ih:Fr→HS→Nat→HS→Nat→DR) (a:Fr) (A:HS) (kA:Nat) (B:HS) (kB:Nat) (tg:Option Tag):DR:=
 match tg with
 |none=>.out 11 o.pos
 |some tg=>match okTag tg with
  |false=>putD n o a (.cond false) (.v (.bool false)) fun a'=>DR.cons i .q (ih a' A kA B kB)
  |true=>dRow n o a i tg A kA B kB ih KA (rowOp c (fun r=>isRowAt B r||isRowAt A r) o.op a) (dDo n o a i tg A kA B kB KB ih call pure (cop c o.op a))
def evD (c:Cx) (n:Nat) (all:Array Oper) (KA KB:Nat) (call:FuncId→List HV→HS→Nat→Rs) (pure:FuncId→List HV→Rs) (l:List Oper):Nat→Fr→HS→Nat→HS→Nat→DR:=
 List.rec (fun _ a A kA B kB=>.ok a A kA B kB []) (fun o _ ih i a A kA B kB=>dTag c n KA KB call pure o i (ih (Nat.succ i)) a A kA B kB (active all a o)) l
/-- What the calls are handed, as far as it is known ahead. -/
def tmpsOf (x:Operand):List Nat:=
 match x with
 |.tmp t=>[t]
 |_=>[]
def isCall:Op→Bool
 |.call ⟨.value _,_,_⟩=>true
 |_=>false
def putP (n:Nat) (o:Oper) (a:Fr) (x:HV):Fr:=
 match hput n o.dst .sure x a with
 |some a'=>a'
 |none=>a
def preVal (n:Nat) (o:Oper) (a:Fr):OpC→Fr
 |.val x=>putP n o a x
 |_=>a
def preOp (n:Nat) (o:Oper) (a:Fr) (s:HS) (q:OpC):Fr:=
 match q with
 |.val x=>putP n o a x
 |.look r q=>match sget s r with
  |some y=>preVal n o a (q y)
  |none=>a
 |_=>a
def preSee (n:Nat) (o:Oper) (a:Fr) (q:Option HV):Fr:=
 match q with
 |some x=>putP n o a x
 |none=>a
def preRow (n:Nat) (o:Oper) (a:Fr) (s:HS) (q:RowC) (rest:Fr):Fr:=
 match q with
 |.no=>rest
 |.val x=>putP n o a x
 |.look r q=>match sget s r with
  |some y=>preSee n o a (q y)
  |none=>a
 |_=>a
def preTag (c:Cx) (n:Nat) (o:Oper) (a:Fr) (s:HS) (tg:Option Tag):Fr:=
 match tg with
 |some tg=>match okTag tg with
  |true=>preRow n o a s (rowOp c (isRowAt s) o.op a) (preOp n o a s (cop c o.op a))
  |false=>a
 |none=>a
def pre (c:Cx) (n:Nat) (all:Array Oper) (s:HS) (l:List Oper):Fr→Fr:=List.rec (fun a=>a) (fun o _ ih a=>ih (preTag c n o a s (active all a o))) l
def callTmps (l:List Oper):List Nat:=l.flatMap fun o=>match isCall o.op with
 |true=>o.op.operands.toList.flatMap tmpsOf
 |false=>[]
def tmpVals (a:Fr) (l:List Nat):List Nat:=l.flatMap fun t=>match fget a t with
 |some (_,x)=>ments 6 x
 |none=>[]
def isApp:Op→Bool
 |.call ⟨.builtin .append,_,_⟩=>true
 |_=>false
def appTmps (l:List Oper):List Nat:=l.flatMap fun o=>match isApp o.op with
 |true=>o.op.operands.toList.flatMap tmpsOf
 |false=>[]
def rowMent (x:HV):List Nat:=
 match x with
 |.row r _ _=>[r]
 |_=>[]
def tmpRows (a:Fr) (l:List Nat):List Nat:=l.flatMap fun t=>match fget a t with
 |some (_,x)=>rowMent x
 |none=>[]
def rootsOf (a:Fr) (l m:List Nat):List Nat:=tmpVals a l ++ tmpRows a m
def roots (c:Cx) (n:Nat) (ops:Array Oper) (a:Fr) (s:HS):List Nat:=
 match callTmps ops.toList with
 |[]=>match appTmps ops.toList with
  |[]=>[]
  |m=>rootsOf (pre c n ops s ops.toList a) [] m
 |l=>rootsOf (pre c n ops s ops.toList a) l (appTmps ops.toList)
def splitA (seen:List Nat) (s:HS):HS:=List.rec [] (fun e _ ih=>match memN e.1 seen with|true=>e::ih|false=>ih) s
theorem splitA_nil (seen:List Nat):splitA seen []=[]:=rfl
theorem splitA_cons (seen:List Nat) (e:Nat × Res) (s:HS):splitA seen (e::s)=match memN e.1 seen with|true=>e::splitA seen s|false=>splitA seen s:=rfl
def splitB (seen:List Nat) (s:HS):HS:=List.rec [] (fun e _ ih=>match memN e.1 seen with|true=>ih|false=>e::ih) s
theorem splitB_nil (seen:List Nat):splitB seen []=[]:=rfl
theorem splitB_cons (seen:List Nat) (e:Nat × Res) (s:HS):splitB seen (e::s)=match memN e.1 seen with|true=>splitB seen s|false=>e::splitB seen s:=rfl
/-- The objects that are touched, in order. -/
def touch (acc:List Nat) (r:Nat):List Nat:=
 match memN r acc with
 |true=>acc
 |false=>acc ++ [r]
def touchC (x:Cl) (ih:List Nat→List Nat) (acc:List Nat):List Nat:=Cl.rec (ih acc) (ih acc) (ih acc) (fun r=>ih (touch acc r)) (fun r=>ih (touch acc r)) x
def touched (l:List (Nat × Cl)) (acc:List Nat):List Nat:=List.rec (motive:=fun _=>List Nat→List Nat) (fun acc=>acc) (fun e _ ih acc=>touchC e.2 ih acc) l acc
def selE (p:Cl→Bool) (l:List (Nat × Cl)):List Nat:=List.rec [] (fun e _ ih=>Bool.rec ih (e.1::ih) (p e.2)) l
def isTA (x:Cl):Bool:=Cl.rec false false true (fun _=>false) (fun _=>false) x
def isRA (x:Cl):Bool:=Cl.rec false true false (fun _=>false) (fun _=>false) x
def isTB (r:Nat) (x:Cl):Bool:=Cl.rec false false false (fun _=>false) (fun q=>Nat.beq q r) x
def isRB (r:Nat) (x:Cl):Bool:=Cl.rec false false false (fun q=>Nat.beq q r) (fun _=>false) x
def EOf (cl:List (Nat × Cl)) (T:List Nat):List (List Nat):=selE isTA cl::T.map fun r=>selE (isTB r) cl
def ROf (cl:List (Nat × Cl)) (T:List Nat):List (List Nat):=selE isRA cl::T.map fun r=>selE (isRB r) cl
def forceLL {β:Sort _} (l:List (List Nat)) (k:List (List Nat)→β):β:=List.rec (motive:=fun _=>(List (List Nat)→β)→β) (fun k=>k []) (fun l _ ih k=>forceL l fun l=>ih fun ls=>k (l::ls)) l k
theorem forceLL_eq {β:Sort _} : ∀ (l:List (List Nat)) (k:List (List Nat)→β),forceLL l k=k l
 |[],_=>rfl
 |l::ls,k=>(forceL_eq l _).trans (forceLL_eq ls (fun ls=>k (l::ls)))
def upto:Nat→Nat→List Nat
 |0,_=>[]
 |n+1,i=>i::upto n (Nat.succ i)
def drawOk (ops:Array Oper) (E R:List (List Nat)):Bool:=lexW ops (partOf E 0) (partOf R 0) (upto ops.size 0) (Array.replicate ops.size false)
def single (B:HS) (r:Nat):HS:=
 match sget B r with
 |some y=>[(r,y)]
 |none=>[(r,.void)]
def single' (B:HS) (r:Nat):HS:=
 match sget B r with
 |some y=>[(r,y)]
 |none=>[]
def nodupN:List Nat→Bool
 |[]=>true
 |r::l=>!memN r l && nodupN l
/-- Each object that is touched was there, or is new. -/
def inB (B:HS) (k1 k2:Nat) (l:List Nat):Bool:=List.rec true (fun r _ ih=>(!isNone (sget B r)||(Nat.ble k1 r && Nat.blt r k2)) && ih) l
theorem inB_cons (B:HS) (k1 k2 r:Nat) (l:List Nat):inB B k1 k2 (r::l)=((!isNone (sget B r)||(Nat.ble k1 r && Nat.blt r k2)) && inB B k1 k2 l):=rfl
def noneIn (k1 k2:Nat) (l:List Nat):Bool:=List.rec true (fun r _ ih=>!(Nat.ble k1 r && Nat.blt r k2) && ih) l
theorem noneIn_cons (k1 k2 r:Nat) (l:List Nat):noneIn k1 k2 (r::l)=(!(Nat.ble k1 r && Nat.blt r k2) && noneIn k1 k2 l):=rfl
/-- Where an operation's class stands in the lists. -/
def place:List Nat→Nat→Nat→Option Nat
 |[],_,_=>none
 |q::T,r,i=>match Nat.beq q r with
  |true=>some i
  |false=>place T r (Nat.succ i)
def isSome (x:Option Nat) (p:Nat):Bool:=
 match x with
 |some q=>Nat.beq q p
 |none=>false
def agreeC (E R:List (List Nat)) (T:List Nat) (i:Nat):Cl→Bool
 |.q=>isNone (partOf E 0 i) && isNone (partOf R 0 i)
 |.tA=>isSome (partOf E 0 i) 0
 |.rA=>isNone (partOf E 0 i) && isSome (partOf R 0 i) 0
 |.tB r=>match place T r 1 with
  |some p=>isSome (partOf E 0 i) p
  |none=>false
 |.rB r=>match place T r 1 with
  |some p=>isNone (partOf E 0 i) && isSome (partOf R 0 i) p
  |none=>false
def agree (E R:List (List Nat)) (T:List Nat) (l:List (Nat × Cl)):Bool:=List.rec true (fun e _ ih=>agreeC E R T e.1 e.2 && ih) l
theorem agree_is (E R:List (List Nat)) (T:List Nat) (e:Nat × Cl) (l:List (Nat × Cl)):agree E R T (e::l)=(agreeC E R T e.1 e.2 && agree E R T l):=rfl
def posOf (ops:Array Oper):String:=
 match ops.toList with
 |o::_=>o.pos
 |[]=> ""
/-- The end of such a region. -/
def evDraw3 (ops:Array Oper) (k k1 k2:Nat) (B:HS) (a':Fr) (A':HS) (kA:Nat) (B':HS) (cl:List (Nat × Cl)) (T:List Nat) (E R:List (List Nat)):Rs:=
 match drawOk ops E R && agree E R T cl && nodupN T && inB B k1 k2 T with
 |false=>.out (match drawOk ops E R with|false=>32|true=>match agree E R T cl with|false=>33|true=>34) (posOf ops)
 |true=>forceL (A' ++ (T.flatMap (single' B') ++ splitB T B)) fun s'=>match Nat.beq kA k && noneIn k1 k2 T with
  |true=>.ok .normal a' s' k
  |false=>.ok .normal a' s' k2
def evDraw2 (ops:Array Oper) (k k1 k2:Nat) (B:HS) (r:DR):Rs:=
 match r with
 |.out w p=>.out w p
 |.ok a' A' kA B' kB cl=>forceL cl fun cl=>forceL (touched cl []) fun T=>forceLL (EOf cl T) fun E=>forceLL (ROf cl T) fun R=>evDraw3 ops k k1 k2 B a' A' kA B' cl T E R
def evDraw1 (c:Cx) (n:Nat) (ops:Array Oper) (call:FuncId→List HV→HS→Nat→Rs) (pure:FuncId→List HV→Rs) (a:Fr) (s:HS) (k k1 k2:Nat):Rs:=
 forceL (clos s 2000 (roots c n ops a s) []) fun seen=>
 forceL (splitA seen s) fun A=>forceL (splitB seen s) fun B=>evDraw2 ops k k1 k2 B (evD c n ops k1 k2 call pure ops.toList 0 a A k B k1)
def evDraw (c:Cx) (n:Nat) (ops:Array Oper) (call:FuncId→List HV→HS→Nat→Nat→Nat→Rs) (pure:FuncId→List HV→Rs) (a:Fr) (s:HS) (k K d:Nat):Rs:=
 match d with
 |0=>.out 30 ""
 |d+1=>forceN (k+2 ^ (24 * d)) fun k1=>forceN (k1+2 ^ (24 * d)) fun k2=>match Nat.ble k2 K with
  |false=>.out 31 ""
  |true=>evDraw1 c n ops (fun f xs s k=>call f xs s k k1 d) pure a s k k1 k2
/-- At a round's end: the frame that was there ahead, as it is now. -/
def refresh:Fr→Fr→Fr
 |[],_=>[]
 |(t,_,_)::a,b=>match fget b t with
  |some (g,x)=>(t,g,x)::refresh a b
  |none=>refresh a b
/-- What a function's results are. -/
def cellIs (s:HS) (q:OpC) (k:HV→Option (List HV)):Option (List HV):=
 match q with
 |.look r q=>match sget s r with
  |some y=>match q y with
   |.val x=>k x
   |_=>none
  |none=>none
 |_=>none
def evRes (c:Cx) (a:Fr) (s:HS):List ResultVar→Option (List HV)
 |[]=>some []
 |.tmp t::l=>match fget a t with
  |some (.sure,x)=>consO x (evRes c a s l)
  |_=>none
 |.cell p t::l=>match fget a p with
  |some (.sure,.ptr r off)=>cellIs s (cload c t (.ptr r off)) fun y=>consO y (evRes c a s l)
  |_=>none
/-- Code without loops over functions. -/
def noRng:Code→Bool
 |.seq x y=>noRng x && noRng y
 |.cond _ x y=>noRng x && noRng y
 |.block _ b=>noRng b
 |.loop b=>noRng b
 |.scope b=>noRng b
 |.rangeFunc _ _ _ _=>false
 |_=>true
/-! Functions that defer one call. -/
def isDefer:Op→Bool
 |.defer _=>true
 |_=>false
def hasDefer:Code→Bool
 |.region _ ops _=>ops.toList.any fun o=>isDefer o.op
 |.seq x y=>hasDefer x||hasDefer y
 |.block _ b=>hasDefer b
 |.scope b=>hasDefer b
 |_=>false
structure DefC where
 g:FuncId
 xs:List HV
 a:Fr
/-- A region that makes a closure and defers it. -/
def deferOf (c:Cx) (n:Nat) (a:Fr):Code→Option DefC
 |.region _ ops false=>match ops.toList with
  |[o1,o2]=>match o1.op with
   |.makeFunc (.func g) fi ca=>match sures a fi.toList,sures a ca.toList with
    |some fi,some ca=>match active ops a o1 with
     |some .sure=>match hput n o1.dst .sure (.fn (.func g) fi ca) a with
      |some a'=>match active ops a' o2 with
       |some .sure=>match o2.op with
        |.defer ⟨.value (.tmp t),as,_⟩=>match o2.dst,as.toList,c.fn g with
         |none,[],true=>match o1.dst with
          |some d=>match Nat.beq d t with
           |true=>some ⟨g,fi ++ ca,a'⟩
           |false=>none
          |none=>none
         |_,_,_=>none
        |_=>none
       |_=>none
      |none=>none
     |_=>none
    |_,_=>none
   |_=>none
  |_=>none
 |_=>none
/-- The deferred call: with what was panicked. -/
structure RecC where
 n:Nat
 X:Code
 a:Fr
 yes:Bool
def isSureO:Option (Tag × HV)→Bool
 |some (.sure,_)=>true
 |_=>false
def nilTest (a:Fr):Op→Bool
 |.binOp _ _ x y _=>isNilC y && isSureO (cev a x)
 |_=>false
def recOf (c:Cx) (g:FuncId) (xs:List HV) (v:HV):Option RecC:=
 match c.P.funcs[g]? with
 |none=>none
 |some fn=>match fn.body with
  |some (.seq (.region _ ops false) (.cond (.tmp t) X .skip))=>match ops.toList,fn.results.toList,Nat.ble xs.length fn.ntmps with
   |[o1,o2],[],true=>match o1.op with
    |.call ⟨.builtin .recover,as,_⟩=>match as.toList,active ops (initFr xs 0) o1,hput fn.ntmps o1.dst .sure v (initFr xs 0) with
     |[],some .sure,some a1=>match active ops a1 o2 with
      |some .sure=>match cop c o2.op a1,nilTest a1 o2.op with
       |.val (.v (.bool b)),true=>match hput fn.ntmps o2.dst .sure (.v (.bool b)) a1 with
        |some a2=>match fget a2 t with
         |some (.sure,.v (.bool b'))=>match b,b' with
          |true,true=>some ⟨fn.ntmps,X,a2,true⟩
          |false,false=>some ⟨fn.ntmps,X,a2,false⟩
          |_,_=>none
         |_=>none
        |none=>none
       |_,_=>none
      |_=>none
     |_,_,_=>none
    |_=>none
   |_,_,_=>none
  |_=>none
def evFin (c:Cx) (fn:Func) (a:Fr) (s:HS) (k:Nat):Rs:=
 match evRes c a s fn.results.toList with
 |some xs=>.ret (tupOf xs) s k
 |none=>.out 40 ""
def evNoPan (c:Cx) (fn:Func) (g:FuncId) (xs:List HV) (a:Fr) (s:HS) (k:Nat):Rs:=
 match recOf c g xs (.v .nilIface) with
 |some ⟨_,_,_,false⟩=>evFin c fn a s k
 |_=>.out 41 ""
def evDidPan (c:Cx) (fn:Func) (rec:Task→HS→Nat→Rs) (g:FuncId) (xs:List HV) (v:HV) (a:Fr) (s:HS) (k:Nat):Rs:=
 match recOf c g xs v with
 |some ⟨m,X,a2,true⟩=>match noRng X with
  |false=>.out 48 ""
  |true=>match rec (.code m X a2) s k with
   |.ok .normal _ s k=>evFin c fn a s k
   |.out w p=>.out w p
   |_=>.out 42 ""
 |_=>.out 43 ""
def evDeferred (c:Cx) (fn:Func) (rec:Task→HS→Nat→Rs) (g:FuncId) (xs:List HV) (r:Rs):Rs:=
 match r with
 |.ok .normal a s k=>evNoPan c fn g xs a s k
 |.ok .ret a s k=>evNoPan c fn g xs a s k
 |.ok (.pan v) a s k=>evDidPan c fn rec g xs v a s k
 |.out w p=>.out w p
 |_=>.out 44 ""
def evAhead (c:Cx) (fn:Func) (k':Fr→HS→Nat→Rs) (r:Rs):Rs:=
 match r with
 |.ok .normal a s k=>k' a s k
 |.ok .ret a s k=>evFin c fn a s k
 |.ok (.pan v) a s k=>.pan v s k
 |.out w p=>.out w p
 |_=>.out 45 ""
def evDefer (c:Cx) (fn:Func) (rec:Task→HS→Nat→Rs):Code→Fr→HS→Nat→Rs
 |.seq x y,a,s,k=>match deferOf c fn.ntmps a x with
  |some ⟨g,xs,a'⟩=>evDeferred c fn rec g xs (rec (.code fn.ntmps y a') s k)
  |none=>evAhead c fn (evDefer c fn rec y) (rec (.code fn.ntmps x a) s k)
 |_,_,_,_=>.out 46 ""
section
variable (c:Cx) (rec:Task→HS→Nat→Nat→Nat→Rs) (K d:Nat)
def evSeq (n:Nat) (y:Code) (r:Rs):Rs:=
 match r with
 |.ok .normal a s k=>rec (.code n y a) s k K d
 |r=>r
def evCond (n:Nat) (x y:Code) (a:Fr) (s:HS) (k:Nat) (t:Option (Tag × HV)):Rs:=
 match t with
 |some (.sure,.v (.bool b))=>match b with
  |true=>rec (.code n x a) s k K d
  |false=>rec (.code n y a) s k K d
 |_=>.out 50 ""
def evBlock (id:Nat) (r:Rs):Rs:=
 match r with
 |.ok (.exit j) a s k=>match Nat.beq j id with
  |true=>.ok .normal a s k
  |false=>.ok (.exit j) a s k
 |r=>r
def evLoop (n:Nat) (b:Code) (a:Fr) (r:Rs):Rs:=
 match r with
 |.ok .normal a' s' k'=>forceL (refresh a a') fun a2=>rec (.code n (.loop b) a2) s' k' K d
 |r=>r
def evReg (n:Nat) (ops:Array Oper) (a:Fr) (s:HS) (k:Nat) (draw:Bool):Rs:=
 match draw with
 |false=>evOps c n ops K (fun n code a s k=>rec (.code n code a) s k K d) (fun f xs s k=>rec (.call f xs) s k K d) ops.toList a s k
 |true=>evDraw c n ops (fun f xs s k K d=>rec (.call f xs) s k K d) (fun f xs=>rec (.call f xs) [] 0 (2 ^ (24 * d)) d) a s k K d
end
section
variable (c:Cx) (rec:Task→HS→Nat→Nat→Nat→Rs) (K d:Nat)
/-- A loop over a function. -/
def evRangeFin (v:Nat) (a:Fr) (s:HS) (k:Nat) (L:LoopR):Rs:=
 match L.busy with
 |true=>.out 75 ""
 |false=>match L.pend with
  |none=>forceL (serase s v) fun s=>.ok .normal a s k
  |some .ret=>forceL (serase s v) fun s=>.ok .ret a s k
  |some (.exit id)=>forceL (serase s v) fun s=>.ok (.exit id) a s k
  |_=>.out 76 ""
def evRangeEnd (v:Nat) (a:Fr) (r:Rs):Rs:=
 match r with
 |.ret _ s k=>match sget s v with
  |some (.loop L)=>evRangeFin v a s k L
  |_=>.out 77 ""
 |.out w p=>.out w p
 |_=>.out 78 ""
def evRange (n:Nat) (ps:Array Tmp) (asg bdy:Code) (a:Fr) (s:HS) (k:Nat) (t:Option (Tag × HV)):Rs:=
 match t with
 |some (.sure,.fn (.func g) fi ca)=>match c.fn g && Nat.blt k K with
  |true=>forceN (Nat.succ k) fun k1=>forceL (fi ++ .yld k::ca) fun xs=>evRangeEnd k a (rec (.call g xs) ((k,.loop ⟨n,a,ps,asg,bdy,false,none⟩)::s) k1 K d)
  |false=>.out 79 ""
 |_=>.out 80 ""
end
abbrev CodeK:Type:=Cx→(Task→HS→Nat→Nat→Nat→Rs)→Nat→Nat→Nat→Fr→HS→Nat→Rs
def kcSkip:CodeK:=fun c rec K d n a s k=>.ok .normal a s k
def kcReg (_:Nat) (ops:Array Oper) (draw:Bool):CodeK:=fun c rec K d n a s k=>evReg c rec K d n ops a s k draw
def kcSeq (x y:Code) (_ _:CodeK):CodeK:=fun c rec K d n a s k=>evSeq rec K d n y (rec (.code n x a) s k K d)
def kcCond (t:Operand) (x y:Code) (_ _:CodeK):CodeK:=fun c rec K d n a s k=>evCond rec K d n x y a s k (cev a t)
def kcBlock (id:Nat) (b:Code) (_:CodeK):CodeK:=fun c rec K d n a s k=>evBlock id (rec (.code n b a) s k K d)
def kcLoop (b:Code) (_:CodeK):CodeK:=fun c rec K d n a s k=>evLoop rec K d n b a (rec (.code n b a) s k K d)
def kcRange (f:Operand) (ps:Array Tmp) (asg bdy:Code):CodeK:=fun c rec K d n a s k=>evRange c rec K d n ps asg bdy a s k (cev a f)
def kcExit (id:Nat):CodeK:=fun c rec K d n a s k=>.ok (.exit id) a s k
def kcScope (b:Code) (_:CodeK):CodeK:=fun c rec K d n a s k=>rec (.code n b a) s k K d
def kcRet:CodeK:=fun c rec K d n a s k=>.ok .ret a s k
def kcBad:CodeK:=fun c rec K d n a s k=>.out 51 ""
def codeR (code:Code):CodeK:=Code.rec (motive:=fun _=>CodeK) kcSkip kcReg kcSeq kcCond kcBlock kcLoop (fun f ps x y _ _=>kcRange f ps x y) kcExit kcScope (fun _=>kcSkip) (fun _=>kcBad) kcRet (fun _=>kcBad) code
section
variable (c:Cx) (rec:Task→HS→Nat→Nat→Nat→Rs) (K d:Nat)
def evCode (n:Nat) (code:Code) (a:Fr) (s:HS) (k:Nat):Rs:=codeR code c rec K d n a s k
def evRet (k0:Nat) (r:Rs):Rs:=
 match r with
 |.ret x s k=>forceL (gc k0 k x s) fun s=>.ret x s k
 |r=>r
def evBody (fn:Func) (xs:List HV) (s:HS) (k:Nat) (code:Code) (b:Bool):Rs:=
 match b with
 |true=>match noRng code with
  |true=>evDefer c fn (fun t s k=>rec t s k K d) code (initFr xs 0) s k
  |false=>.out 47 fn.name
 |false=>evAhead c fn (fun a s k=>evFin c fn a s k) (rec (.code fn.ntmps code (initFr xs 0)) s k K d)
def evFn (fn:Func) (xs:List HV) (s:HS) (k:Nat):Rs:=
 match fn.body with
 |none=>.out 61 fn.name
 |some code=>match Nat.ble xs.length fn.ntmps with
  |false=>.out 62 fn.name
  |true=>evRet k (evBody c rec K d fn xs s k code (hasDefer code))
def evCall (lib:FuncId→List HV→Option LibR) (f:FuncId) (xs:List HV) (s:HS) (k:Nat):Rs:=
 match lib f xs with
 |some (.val x)=>.ret x s k
 |some (.new X Y)=>match Nat.blt k K with
  |true=>forceN (Nat.succ k) fun k1=>.ret (X k) ((k,Y k)::s) k1
  |false=>.out 64 ""
 |some (.look r q)=>match sget s r with
  |some y=>match q y with
   |some x=>.ret x s k
   |none=>.out 65 ""
  |none=>.out 66 ""
 |some (.turn r q)=>match sget s r with
  |some y=>match q y with
   |some z=>forceL (sset s r z) fun s=>.ret (.tup []) s k
   |none=>.out 67 ""
  |none=>.out 68 ""
 |some (.st g)=>match g s with
  |some (x,s1)=>forceL s1 fun s1=>.ret x s1 k
  |none=>.out 69 ""
 |none=>match c.P.funcs[f]? with
  |none=>.out 60 ""
  |some fn=>evFn c rec K d fn xs s k
end
def tCode (n:Nat) (code:Code) (a:Fr) (c:Cx) (lib:FuncId→List HV→Option LibR) (rec:Task→HS→Nat→Nat→Nat→Rs) (s:HS) (k K d:Nat):Rs:=codeR code c rec K d n a s k
def tCall (f:FuncId) (xs:List HV) (c:Cx) (lib:FuncId→List HV→Option LibR) (rec:Task→HS→Nat→Nat→Nat→Rs) (s:HS) (k K d:Nat):Rs:=evCall c rec K d lib f xs s k
def evStep (c:Cx) (lib:FuncId→List HV→Option LibR) (rec:Task→HS→Nat→Nat→Nat→Rs) (t:Task) (s:HS) (k K d:Nat):Rs:=
 Task.rec (motive:=fun _=>Cx→(FuncId→List HV→Option LibR)→(Task→HS→Nat→Nat→Nat→Rs)→HS→Nat→Nat→Nat→Rs) tCode tCall t c lib rec s k K d
/-- The machine, so many steps deep. -/
def run (c:Cx) (lib:FuncId→List HV→Option LibR) (fuel:Nat):Task→HS→Nat→Nat→Nat→Rs:=
 Nat.rec (fun _ _ _ _ _=>.out 99 "") (fun _ ih=>evStep c lib ih) fuel
end
end Go.Proofs.Hk

set_option linter.unusedVariables false
set_option linter.unusedSimpArgs false
namespace Go.Proofs.Hk
open Go
/-! What is new gets a name that was kept free. -/
theorem okTag_rel {G:Ghost} {g:Tag} {x:HV} {u:Value} (h:tagRel G g x u) (hg:okTag g=true):rel G x u:=by
 cases g with
 |sure=>exact h
 |cond b=>exact h.1 hg
theorem carg_new {a:Fr} {x:Operand} {k:HV→OpC} {X:Nat→HV} {Y:Nat→Res} (h:carg a x k = .new X Y) {G:Ghost} {n:Nat} {ra:Act} (hf:FRel G n a ra):∃ v,rel G v (ra.eval x)∧k v = .new X Y:=by
 unfold carg at h
 rw [←cev_eq] at h
 cases e:ev a x with
 |none=>rw [e] at h;cases h
 |some p=>
  obtain ⟨g,v⟩:=p
  rw [e] at h
  have h:(Bool.rec .bad (k v) (okTag g):OpC) = .new X Y:=h
  cases hg:okTag g with
  |false=>rw [hg] at h;cases h
  |true=>rw [hg] at h;exact ⟨v,okTag_rel (ev_ok hf e) hg,h⟩
theorem cargsM_new {a:Fr} {G:Ghost} {n:Nat} {ra:Act} (hf:FRel G n a ra) {X:Nat→HV} {Y:Nat→Res} : ∀ {xs:List Operand} {k:List HV→OpC},cargsM a xs k = .new X Y→∃ vs,relVs G vs (xs.map ra.eval)∧k vs = .new X Y
 |[],k,h=>⟨[],by simp [relVs],h⟩
 |x::xs,k,h=>by
  obtain ⟨v,hv,h⟩:=carg_new h hf
  obtain ⟨vs,hvs,h⟩:=cargsM_new hf h
  exact ⟨v::vs,by rw [List.map_cons,relVs_cons];exact ⟨_,_,rfl,hv,hvs⟩,h⟩
theorem cif_new {b:Bool} {k:OpC} {X:Nat→HV} {Y:Nat→Res} (h:cif b k = .new X Y):b=true∧k = .new X Y:=by
 cases b with
 |true=>exact ⟨rfl,h⟩
 |false=>cases h
theorem cnew_new {t:TypeId} {x:HV} {X:Nat→HV} {Y:Nat→Res} (h:cnew t x = .new X Y):kdOk x=true∧X=(fun r=>.ptr r 0)∧Y=(fun _=>.cells x.cells t):=by
 unfold cnew at h
 split at h
 ·rename_i hk
  rw [forceL_eq] at h
  injection h with h1 h2
  exact ⟨hk,h1.symm,h2.symm⟩
 ·cases h
theorem hset_head (v:Nat) (x y:Res) (s:HS):hset ((v,x)::s) v y=(v,y)::s:=by rw [hset_cons,if_pos rfl]
/-- A row that moves, by a name that was kept free. -/
theorem grow_void {c:Cx} {G:Ghost} {s:HS} {w:World} {v:Nat} (hs:SRel G ((v,.void)::s) w) {t u ty:TypeId} {d:TyD} (hse:sliceElem c t=some d) (hrow:isRow c u=true) (hb:0 < d.bytes)
  {x y:HV} {p q:Value} (hx:rel G x p) (hy:rel G y q) {l ys:List HV} (hys:hmore d y=some ys) (hx1:x = .v (.slice none 0 0)∧l=[]∨∃ sz,x = .list .full sz l∧sz=d.size) {X:Nat→HV} {Y:Nat→Res} (h:cgrow d x l ys = .new X Y) :
  Gives ((v,.void)::s) G w ((do pure (Next.value (←Builtin.append_ #[t,u] ty #[p,q])):Sem Next).run c.P w) (X v) ((v,Y v)::s):=by
 obtain ⟨e,hd,ht⟩:=sliceElem_ok hse
 obtain ⟨du,hdu,hu⟩:=isRow_ok hrow
 obtain ⟨news,hsrc⟩:=more_ok c.P hs hy hys
 have hne:ys≠[]∧Nat.ble ((l.length+ys.length) * d.bytes) 140737488355328=true∧X=(fun r=>.list (.own r 0) d.size (l ++ ys))∧Y=(fun _=>.tok (l.length+ys.length)):=by
  unfold cgrow at h
  split at h
  ·cases (cif_new h).2
  ·rename_i hn
   rw [forceN_eq] at h
   obtain ⟨h1,h2⟩:=cif_new h
   rw [forceL_eq] at h2
   injection h2 with h3 h4
   exact ⟨fun e=>hn e,h1,h3.symm,h4.symm⟩
 obtain ⟨hy0,hfit,rfl,rfl⟩:=hne
 have hfit:=Nat.le_of_ble_eq_true hfit
 have h0:0 < ys.length:=List.length_pos_iff.2 hy0
 obtain ⟨a0,a1,a2,a3⟩:=hs.holds v .void List.mem_cons_self
 have hr:(G.lim≤v∧G.lim=v+1∧(v,Res.tok (l.length+ys.length))::s=(v,.tok (l.length+ys.length))::(v,.void)::s)∨(v∈keys ((v,Res.void)::s)∧G.lim=G.lim∧(v,Res.tok (l.length+ys.length))::s=hset ((v,.void)::s) v (.tok (l.length+ys.length))∧∀ tp,G.top v=some tp→tp.n < l.length+ys.length):=
  .inr ⟨by simp [keys],rfl,(hset_head _ _ _ _).symm,fun tp e=>by rw [a2] at e;cases e⟩
 have nil:∀ {base:Option Addr},l=[]→p = .slice base 0 0→(∀ w',w'.heap=w.heap→(Builtin.firstCells d.size 0 (.slice base 0 0)).run c.P w' = .ok #[] w')→Gives ((v,.void)::s) G w ((do pure (Next.value (←Builtin.append_ #[t,u] ty #[p,q])):Sem Next).run c.P w) (.list (.own v 0) d.size (l ++ ys)) ((v,.tok (l.length+ys.length))::s):=by
  intro base hl hp hold
  subst hl hp
  exact moved (l:=[]) (olds:=[]) (cp:=0) (base:=base) (ty:=ty) hs ht hu hdu hd (fun w' hw=>hold w' hw) (by simp) (fun _ _ _ _ _=>by simp only [relAts]) hsrc (by simpa using h0) hb (by simpa using hfit) (by omega) hr
 rcases hx1 with ⟨rfl,hl⟩|⟨sz,rfl,rfl⟩
 ·exact nil hl (rel_v_eq hx) (fun w' _=>by simp [Builtin.firstCells])
 ·rcases rel_list hx with ⟨hl,rfl,_⟩|⟨b,o,cp,rfl,hcp,ha,hcn⟩|⟨hl,_,ad,rfl⟩
  ·exact nil hl rfl (fun w' _=>by simp [Builtin.firstCells])
  ·have hcn:cp=l.length:=hcn
   subst hcn
   obtain ⟨olds,o1,o2,o3⟩:=old_list c.P hs ha
   exact moved hs ht hu hdu hd (fun w' hw=>o2 _ w' hw) o1 o3 hsrc (by omega) hb hfit (by omega) hr
  ·exact nil hl rfl (fun w' _=>run_firstCells_some w' _ 0 ad 0 0 [] (by simp) (fun j u e=>by simp at e))
theorem append_void {c:Cx} {G:Ghost} {s:HS} {w:World} {v:Nat} (hs:SRel G ((v,.void)::s) w) {t u ty:TypeId} {x y:HV} {p q:Value} (hx:rel G x p) (hy:rel G y q) {X:Nat→HV} {Y:Nat→Res} (h:cappend c t u x y = .new X Y) :
  Gives ((v,.void)::s) G w ((do pure (Next.value (←Builtin.append_ #[t,u] ty #[p,q])):Sem Next).run c.P w) (X v) ((v,Y v)::s):=by
 unfold cappend at h
 split at h
 ·cases h
 ·rename_i d hse
  split at h
  ·cases h
  ·rename_i hchk
   simp only [Bool.and_eq_true,Nat.blt_eq] at hchk
   obtain ⟨⟨hrow,hb⟩,hsz⟩:=hchk
   split at h
   ·cases h
   ·rename_i ys hys
    split at h
    ·exact grow_void hs hse hrow hb hx hy hys (.inl ⟨rfl,rfl⟩) h
    ·split at h
     ·rename_i hz
      exact grow_void hs hse hrow hb hx hy hys (.inr ⟨_,rfl,Nat.eq_of_beq_eq_true hz⟩) h
     ·cases h
    ·split at h<;>cases h
    ·cases h
theorem elemT_slice {c:Cx} {t e:TypeId} (he:sliceElemT c t=some e) (w:World):(underlying t).run c.P w = .ok (.slice e) w:=by
 unfold sliceElemT at he
 split at he
 ·rename_i e' hd
  cases he
  exact (c.ty_ok t _ hd).slice rfl
 ·cases he
theorem makeSlice_void {c:Cx} {G:Ghost} {s:HS} {w:World} {v:Nat} (hs:SRel G ((v,.void)::s) w) {t:TypeId} {own:Bool} {x y:HV} {p q:Value} (hx:rel G x p) (hy:rel G y q) {X:Nat→HV} {Y:Nat→Res} (h:cmakeSlice c t own x y = .new X Y) :
  Gives ((v,.void)::s) G w ((do pure (Next.value (←Instr.makeSlice t p q)):Sem Next).run c.P w) (X v) ((v,Y v)::s):=by
 obtain ⟨a0,a1,a2,a3⟩:=hs.holds v .void List.mem_cons_self
 unfold cmakeSlice at h
 split at h
 ·cases h
 ·rename_i e he
  have ht:=elemT_slice he w
  split at h
  ·rename_i d z hd hz
   have hdo:=c.ty_ok e d hd
   obtain ⟨d',hd',hzr⟩:=zero_ok0 c (G:=G) hz
   rw [hd] at hd'
   cases hd'
   split at h
   ·cases h
   ·rename_i hchk
    simp only [Bool.and_eq_true,Nat.blt_eq] at hchk
    obtain ⟨⟨hsz,hb⟩,hk⟩:=hchk
    have hk:=kdOk_ne hk
    split at h
    ·rename_i k n k' m
     have e1:=rel_v_eq hx
     have e2:=rel_v_eq hy
     subst e1 e2
     split at h
     ·obtain ⟨hc,h5⟩:=cif_new h
      clear h
      simp only [Bool.and_eq_true] at hc
      have hn:=Nat.eq_of_beq_eq_true hc.1
      have hm:=Nat.le_of_ble_eq_true hc.2
      subst hn
      injection h5 with h1 h2
      subst h1 h2
      have run:=run_makeSlice (k:=k) (k':=k') ht hdo (n:=0) (c:=(m:Int)) (Int.le_refl _) (by omega) (by
       have:m * 1≤m * d.bytes:=Nat.mul_le_mul_left _ hb
       omega) (by simpa using hm) hsz hb
      have hzs:=hdo.zsize
      have post:=post_grown (w':=w) (t:=e) (r:=v) (n:=0) (e:=0) (ce:=(m:Int).toNat * d.size) (lim:=G.lim) (vs:=(Array.range ((m:Int).toNat * d.size)).map (fun x=>d.zero.cells[x % d.zero.cells.size]!)) hs rfl rfl rfl rfl (s':=(v,.tok 0)::s) (.inr ⟨by simp [keys],rfl,(hset_head _ _ _ _).symm,fun tp e=>by rw [a2] at e;cases e⟩) (by simp)
      refine ⟨_,_,_,.inl (by rw [Sem.run_bind];erw [run];rfl),?_,post⟩
      refine list_rel (by simp) (by simp only [relAts]) ?_
      refine ⟨⟨0,w.heap.size,0,_⟩,by simp only [Ghost.grown,if_true];rfl,by simp,fun _=>.inl ⟨rfl,by simp,by simp⟩⟩
     ·obtain ⟨hc,h5⟩:=cif_new h
      clear h
      simp only [Bool.and_eq_true] at hc
      have hn:=Nat.le_of_ble_eq_true hc.1
      have hm:=Nat.le_of_ble_eq_true hc.2
      rw [forceN_eq,forceN_eq,forceL_eq] at h5
      injection h5 with h1 h2
      subst h1 h2
      have run:=run_makeSlice (k:=k) (k':=k') ht hdo (n:=(n:Int)) (c:=(m:Int)) (by omega) (by omega) (by
       have:m * 1≤m * d.bytes:=Nat.mul_le_mul_left _ hb
       omega) (by simpa using hm) hsz hb
      have hzs:=hdo.zsize
      refine ⟨_,_,G.newAs v w.heap.size,.inl (by rw [Sem.run_bind];erw [run];rfl),?_,post_newAs hs _ _ ⟨w.heap.size,_,by simp [Ghost.newAs],by simp [Ghost.newAs],pushed_new w _,?_,fun o=>hs.K_new (Nat.le_refl _) o⟩⟩
      ·exact rel_leaf (by simp only [relC];exact ⟨w.heap.size,by simp [Ghost.newAs],by simp⟩) rfl
      ·have:=rep_rel hzr hk m (by rw [hzs];exact hsz)
       rw [hzs] at this
       simp only [hzs,Int.toNat_natCast]
       exact relCs.mono (newAs_le hs _) _ _ this
    ·cases h
  ·cases h
theorem makeMap_void {c:Cx} {G:Ghost} {s:HS} {w:World} {v:Nat} (hs:SRel G ((v,.void)::s) w) {t:TypeId} {hint:Option Value} (hh:∀ v,hint=some v→∃ k n,v = .int k n) {X:Nat→HV} {Y:Nat→Res} (h:cmakeMap c t = .new X Y) :
  Gives ((v,.void)::s) G w ((do pure (Next.value (←Instr.makeMap t hint)):Sem Next).run c.P w) (X v) ((v,Y v)::s):=by
 unfold cmakeMap at h
 split at h
 ·rename_i e
  injection h with h1' h2'
  subst h1' h2'
  obtain ⟨i,u,h1,h2,_,_,_,_,h3,_⟩:=c.ty_ok t _ e
  obtain ⟨kt,et,hu⟩:∃ kt et,u = .map kt et:=by cases u<;>simp [shOK] at h3 ⊢
  subst hu
  have run:(Instr.makeMap t hint).run c.P w = .ok (.map (some w.heap.size)) (World.pushed w (.map #[] 0)):=by
   cases hint with
   |none=>simp [Instr.makeMap,Go.newObj,Sem.run,World.pushed]
   |some v=>
    obtain ⟨k,n,rfl⟩:=hh v rfl
    simp [Instr.makeMap,run_underlying h2,asInt,asIntOf,Go.newObj,Sem.run,World.pushed,Result.andThen]
  exact ⟨_,_,G.newAs v w.heap.size,.inl (by rw [Sem.run_bind,run];rfl),rel_leaf (by simp only [relC];exact ⟨w.heap.size,by simp [Ghost.newAs],rfl⟩) rfl,post_newAs hs _ _ ⟨w.heap.size,#[],0,by simp [Ghost.newAs],by simp [Ghost.newAs],pushed_new w _,rfl⟩⟩
 ·cases h
theorem cbuiltin_append {c:Cx} {ts:List TypeId} {xs:List HV} {X:Nat→HV} {Y:Nat→Res} (h:cbuiltin c .append ts xs = .new X Y):∃ t u x y,ts=[t,u]∧xs=[x,y]∧cappend c t u x y = .new X Y:=by
 rcases ts with _|⟨t,_|⟨u,_|⟨_,_⟩⟩⟩<;>rcases xs with _|⟨x,_|⟨y,_|⟨_,_⟩⟩⟩<;>first|exact ⟨_,_,_,_,rfl,rfl,h⟩|cases h
theorem cop_new (c:Cx) {G:Ghost} {s:HS} {w:World} {n v:Nat} {a:Fr} {ra:Act} (hs:SRel G ((v,.void)::s) w) (hf:FRel G n a ra) (o:Oper) {X:Nat→HV} {Y:Nat→Res} (hn:newOp o.op=true) (h:cop c o.op a = .new X Y) :
  Gives ((v,.void)::s) G w ((execOp ra.eval o).run c.P w) (X v) ((v,Y v)::s):=by
 obtain ⟨dst,op,type,pos,after,guard⟩:=o
 cases op<;>(first|(exfalso;revert hn;simp [newOp];done)|skip)
 case alloc t=>
  have h:cAlloc c t = .new X Y:=h
  unfold cAlloc at h
  split at h
  ·rename_i z hz
   obtain ⟨d,hd,hr⟩:=zero_ok c (G:=G) hz
   have ht:=c.ty_ok t d hd
   obtain ⟨hk,rfl,rfl⟩:=cnew_new h
   have:=newAs_ok c.P hs t hr hk
   have e:(execOp ra.eval ⟨dst,.alloc t,type,pos,after,guard⟩).run c.P w=(do pure (Next.value (←(do pure (Value.pointer (some (←newVar t d.zero)))))):Sem Next).run c.P w:=by
    simp [execOp,Instr.alloc,ht.zero]
   rw [e]
   exact this
  ·cases h
 case box t x=>
  have h:carg a x (cnew t) = .new X Y:=h
  obtain ⟨u,hu,h⟩:=carg_new h hf
  obtain ⟨hk,rfl,rfl⟩:=cnew_new h
  exact newAs_ok c.P hs t hu hk
 case makeSlice t x y=>
  have h:carg a x (fun u=>carg a y fun v=>cmakeSlice c t (isZeroOp x) u v) = .new X Y:=h
  obtain ⟨u,hu,h⟩:=carg_new h hf
  obtain ⟨u',hu',h⟩:=carg_new h hf
  exact makeSlice_void hs hu hu' h
 case makeMap t r=>
  cases r with
  |none=>
   have h:cmakeMap c t = .new X Y:=h
   exact makeMap_void (hint:=none) hs (by simp) h
  |some x=>
   have h:carg a x (cMakeMap c t) = .new X Y:=h
   obtain ⟨u,hu,h⟩:=carg_new h hf
   unfold cMakeMap at h
   split at h
   ·rename_i k n
    have e:=rel_v_eq hu
    have:=makeMap_void (hint:=some (.int k n)) hs (fun v h=>by cases h;exact ⟨k,n,rfl⟩) h
    simpa [execOp,e] using this
   ·cases h
 case call cl=>
  obtain ⟨callee,xs,ts⟩:=cl
  cases callee with
  |value f=>exact absurd hn (by simp [newOp])
  |invoke r m=>exact absurd hn (by simp [newOp])
  |builtin b=>
   have hb:b = .append:=by cases b<;>first|rfl|(exfalso;revert hn;simp [newOp];done)
   subst hb
   have h:(cargsM a xs.toList fun xs=>cbuiltin c .append ts.toList xs) = .new X Y:=h
   obtain ⟨vs,hvs,h⟩:=cargsM_new hf h
   simp only [execOp,resolve,invoke,pure_bind]
   obtain ⟨t,u,x,y,e,e',h⟩:=cbuiltin_append h
   have e:ts = #[t,u]:=by rw [←Array.toArray_toList (xs:=ts),e]
   subst e e'
   simp only [relVs_cons] at hvs
   obtain ⟨p,us,e1,h1,q,us',e2,h2,h3⟩:=hvs
   simp only [relVs] at h3
   subst h3 e2
   have:=append_void (ty:=type) hs h1 h2 h
   have e3:xs.map ra.eval = #[p,q]:=by rw [←mapArr,e1]
   rw [e3]
   exact this
end Go.Proofs.Hk

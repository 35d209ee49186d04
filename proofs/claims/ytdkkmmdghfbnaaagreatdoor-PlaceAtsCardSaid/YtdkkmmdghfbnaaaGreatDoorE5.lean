import Derived.Test.YtdkkmmdghfbnaaaGreatDoorH40
import Derived.Test.YtdkkmmdghfbnaaaGreatDoorH22
import Derived.Test.YtdkkmmdghfbnaaaGreatDoorH33
set_option linter.unusedVariables false
set_option linter.unusedSimpArgs false
namespace Go.Proofs.Hk
open Go
noncomputable section
variable {c:Cx} {s:HS}
/-! Maps. -/
def ckeyEq:Value→Value→Bool
 |.string a,.string b=>cstrEq a b
 |.int _ a,.int _ b=>ieq a b
 |_,_=>false
theorem ckeyEq_eq (a b:Value):keyEq a b=ckeyEq a b:=by
 unfold keyEq ckeyEq
 split
 ·exact cstrEq_eq _ _
 ·exact dec_of ieq_iff
 ·rename_i h1 h2
  split
  ·exact (h1 _ _ rfl rfl).elim
  ·exact (h2 _ _ _ _ rfl rfl).elim
  ·rfl
def cmapV (k:Value) (z:HV):List (Value × HV)→HV
 |[]=>z
 |e::l=>match ckeyEq k e.1 with
  |true=>e.2
  |false=>cmapV k z l
theorem cmapV_eq (k:Value) (z:HV):∀ l,mapV k z l=cmapV k z l
 |[]=>rfl
 |e::l=>by rw [mapV,cmapV,ckeyEq_eq,cmapV_eq k z l];cases ckeyEq k e.1<;>rfl
def cmapB (k:Value):List (Value × HV)→Bool
 |[]=>false
 |e::l=>match ckeyEq k e.1 with
  |true=>true
  |false=>cmapB k l
theorem cmapB_eq (k:Value):∀ l,mapB k l=cmapB k l
 |[]=>rfl
 |e::l=>by rw [mapB,cmapB,ckeyEq_eq,cmapB_eq k l];cases ckeyEq k e.1<;>rfl
def cmapSet (k:Value) (x:HV):List (Value × HV)→List (Value × HV)
 |[]=>[(k,x)]
 |e::l=>match ckeyEq k e.1 with
  |true=>(e.1,x)::l
  |false=>e::cmapSet k x l
theorem cmapSet_eq (k:Value) (x:HV):∀ l,mapSet k x l=cmapSet k x l
 |[]=>rfl
 |e::l=>by rw [mapSet,cmapSet,ckeyEq_eq,cmapSet_eq k x l];cases ckeyEq k e.1<;>rfl
def cmapRes (ok:Bool) (k:Value) (z:HV) (es:List (Value × HV)):OpC:=
 match ok with
 |true=>forceB (cmapB k es) fun b=>.val (.tup [cmapV k z es,.v (.bool b)])
 |false=>.val (cmapV k z es)
theorem cmapRes_eq (ok:Bool) (k:Value) (z:HV) (es:List (Value × HV)):cmapRes ok k z es = .val (hmapRes ok k z es):=by
 cases ok<;>simp only [cmapRes,hmapRes,forceB_eq,cmapB_eq,cmapV_eq]
def clookup (c:Cx) (t:TypeId) (x i:HV) (ok:Bool):OpC:=
 match c.ty t with
 |some ⟨_,_,_,_,.map kt et⟩=>match hkey c kt i,hzero c et with
  |some k,some z=>match x with
   |.v (.map none)=>cmapRes ok k z []
   |.map r=>.look r fun
    |.map es=>cif (hkeysB c kt es) (cmapRes ok k z es)
    |_=>.bad
   |_=>.bad
  |_,_=>.bad
 |_=>.bad
theorem clookup_ok (t:TypeId) (x i:HV) (ok:Bool):Ans s (hlookup c t x i ok) (clookup c t x i ok):=by
 unfold hlookup clookup
 cases c.ty t with
 |none=>exact .bad
 |some d0=>
 obtain ⟨d1,d2,d3,d4,sh⟩:=d0
 cases sh<;>simp only<;>try exact .bad
 rename_i kt et
 cases hkey c kt i with
 |none=>exact .bad
 |some k=>
 cases hzero c et with
 |none=>exact .bad
 |some z=>
 simp only
 split
 ·rw [cmapRes_eq];exact .pure
 ·rename_i r
  simp only
  refine .look fun y=>?_
  cases y<;>simp only<;>try exact .bad
  rename_i es
  refine cif_ok fun hk=>?_
  rw [cmapRes_eq,hk]
  exact .pure
 ·rename_i h1 h2
  split
  ·exact (h1 rfl).elim
  ·exact (h2 _ rfl).elim
  ·exact .bad
def cmakeMap (c:Cx) (t:TypeId):OpC:=
 match c.ty t with
 |some ⟨_,_,_,_,.map _ _⟩=>.new (fun r=>.map r) (fun _=>.map [])
 |_=>.bad
def cmapPut (c:Cx) (t:TypeId) (m k x:HV):OpC:=
 match c.ty t with
 |some ⟨_,_,_,_,.map kt _⟩=>match hkey c kt k,m with
  |some key,.map r=>.look r fun
   |.map es=>cif (hkeysB c kt es) (forceL (cmapSet key x es) fun l=>.upd (.tup []) r (.map l))
   |_=>.bad
  |_,_=>.bad
 |_=>.bad
theorem cmapPut_ok (t:TypeId) (m k x:HV):Ans s (hmapPut c s t m k x) (cmapPut c t m k x):=by
 unfold hmapPut cmapPut
 cases c.ty t with
 |none=>exact .bad
 |some d0=>
 obtain ⟨d1,d2,d3,d4,sh⟩:=d0
 cases sh<;>simp only<;>try exact .bad
 rename_i kt et
 cases hkey c kt k with
 |none=>exact .bad
 |some key=>
 cases m<;>simp only<;>try exact .bad
 rename_i r
 refine .look fun y=>?_
 cases y<;>simp only<;>try exact .bad
 rename_i es
 refine cif_ok fun hk=>?_
 rw [forceL_eq,hk]
 simp only
 rw [cmapSet_eq]
 exact .upd fun K k=>k
/-! Operands. -/
def okTag:Tag→Bool
 |.sure=>true
 |.cond b=>b
def hitF:Nat × Tag × HV→Option (Tag × HV)
 |(_,g,x)=>some (g,x)
def fget (a:Fr) (t:Nat):Option (Tag × HV):=List.rec none (fun e _ ih=>Bool.rec ih (hitF e) (Nat.beq e.1 t)) a
theorem fget_eq:∀ (a:Fr) (t:Nat),a.get t=fget a t
 |[],t=>rfl
 |(u,g,x)::a,t=>by
  have ih:=fget_eq a t
  rw [Fr.get,ih]
  show _=(Bool.rec (fget a t) (some (g,x)) (Nat.beq u t):Option (Tag × HV))
  cases Nat.beq u t<;>rfl
def cconst (v:Value):Option (Tag × HV):=Bool.rec none (some (.sure,.v v)) (vOne v)
def evT (t:Nat) (a:Fr):Option (Tag × HV):=fget a t
def evC (v:Value) (_:Fr):Option (Tag × HV):=cconst v
def evG (_:Nat) (_:Fr):Option (Tag × HV):=none
def evF (f:FuncId) (_:Fr):Option (Tag × HV):=some (.sure,.fn (.func f) [] [])
def cev (a:Fr) (x:Operand):Option (Tag × HV):=Operand.rec (motive:=fun _=>Fr→Option (Tag × HV)) evT evC evG evF x a
theorem cev_eq (a:Fr) (x:Operand):ev a x=cev a x:=by
 cases x with
 |tmp t=>exact fget_eq a t
 |const v=>cases v<;>rfl
 |func f=>rfl
 |global g=>rfl
def cargP (g:Tag) (x:HV) (k:HV→OpC):OpC:=Bool.rec .bad (k x) (okTag g)
def cargS (p:Tag × HV) (k:HV→OpC):OpC:=Prod.rec (motive:=fun _=>(HV→OpC)→OpC) cargP p k
def cargT (k:HV→OpC) (q:Option (Tag × HV)):OpC:=Option.rec (motive:=fun _=>(HV→OpC)→OpC) (fun _=>.bad) cargS q k
def carg (a:Fr) (x:Operand) (k:HV→OpC):OpC:=cargT k (cev a x)
theorem carg_ok {a:Fr} {x:Operand} {k:HV→OpRes} {k':HV→OpC} (h:∀ v,Ans s (k v) (k' v)):Ans s (arg a x k) (carg a x k'):=by
 unfold arg carg
 rw [←cev_eq]
 cases ev a x with
 |none=>exact .bad
 |some p=>
  obtain ⟨g,v⟩:=p
  cases g with
  |sure=>exact h v
  |cond b=>
   cases b with
   |true=>exact (h v).need rfl
   |false=>exact .bad
def cargsM (a:Fr) (l:List Operand):(List HV→OpC)→OpC:=List.rec (fun k=>k []) (fun x _ ih k=>carg a x fun v=>ih fun vs=>k (v::vs)) l
theorem cargsM_ok {a:Fr} : ∀ {xs:List Operand} {k:List HV→OpRes} {k':List HV→OpC},(∀ v,Ans s (k v) (k' v))→Ans s (argsM a xs k) (cargsM a xs k')
 |[],k,k',h=>h []
 |x::xs,k,k',h=>carg_ok fun v=>cargsM_ok fun vs=>h (v::vs)
def cargO (a:Fr) (x:Option Operand) (k:Option HV→OpC):OpC:=
 match x with
 |none=>k none
 |some x=>carg a x fun v=>k (some v)
theorem cargO_ok {a:Fr} {x:Option Operand} {k:Option HV→OpRes} {k':Option HV→OpC} (h:∀ v,Ans s (k v) (k' v)):Ans s (argO a x k) (cargO a x k'):=by
 cases x with
 |none=>exact h none
 |some x=>exact carg_ok fun v=>h (some v)
def cpick (a:Fr) (cb:Bool) (x y:Operand):OpC:=
 match ev a x,ev a y with
 |some (gx,.v (.bool p)),some (gy,.v (.bool q))=>match cb with
  |true=>cif (okTag gx) (cbool p)
  |false=>cif (okTag gy) (cbool q)
 |some (gx,x),some (gy,y)=>match cb with
  |true=>cif (okTag gx) (.same x)
  |false=>cif (okTag gy) (.same y)
 |_,_=>.bad
theorem isTrue_ev {a:Fr} {x:Operand} {g:Tag} {p:Bool} (h:isTrue x=true) (e:ev a x=some (g,.v (.bool p))):p=true:=by
 have:=isTrue_eq h
 subst this
 simp only [ev,Option.some.injEq,Prod.mk.injEq,HV.v.injEq,Value.bool.injEq] at e
 exact e.2.symm
theorem isFalse_ev {a:Fr} {x:Operand} {g:Tag} {p:Bool} (h:isFalse x=true) (e:ev a x=some (g,.v (.bool p))):p=false:=by
 have:=isFalse_eq h
 subst this
 simp only [ev,Option.some.injEq,Prod.mk.injEq,HV.v.injEq,Value.bool.injEq] at e
 exact e.2.symm
def hpick (a:Fr) (s:HS) (cb:Bool) (x y:Operand):OpRes:=match ev a x,ev a y with
   |some (gx,.v (.bool p)),some (gy,.v (.bool q))=>match gx with
    |.sure=>match gy with
     |.sure=>match isTrue x with
      |true=>.pure (.v (.bool (cb||q)))
      |false=>match isFalse y with
       |true=>.pure (.v (.bool (cb && p)))
       |false=>.pure (.v (.bool (bif cb then p else q)))
     |.cond g=>match isTrue x with
      |true=>.val (cb=false→g=true) (.v (.bool (cb||q)))
      |false=>.val (cb=false→g=true) (.v (.bool (bif cb then p else q)))
    |.cond g'=>match gy with
     |.sure=>match isFalse y with
      |true=>.val (cb=true→g'=true) (.v (.bool (cb && p)))
      |false=>.val (cb=true→g'=true) (.v (.bool (bif cb then p else q)))
     |.cond g=>.val ((cb=true→g'=true)∧(cb=false→g=true)) (.v (.bool (bif cb then p else q)))
   |some (gx,x),some (gy,y)=>
    .eff fun K=>Br cb (match gx with|.sure=>K x s|.cond g=>Side (g=true) (K x s)) (match gy with|.sure=>K y s|.cond g=>Side (g=true) (K y s))
   |_,_=>.bad
theorem cpick_ok (a:Fr) (cb:Bool) (x y:Operand):Ans s (hpick a s cb x y) (cpick a cb x y):=by
 unfold hpick
 split
 ·rename_i gx p gy q hx hy
  unfold cpick
  rw [hx,hy]
  simp only
  have hxt:isTrue x=true→p=true:=fun h=>isTrue_ev h hx
  have hyf:isFalse y=true→q=false:=fun h=>isFalse_ev h hy
  cases cb with
  |true=>
   simp only
   refine cif_ok fun h=>?_
   rw [cbool_eq]
   cases gx with
   |sure=>
    cases gy with
    |sure=>
     simp only
     cases e1:isTrue x with
     |true=>rw [hxt e1];exact .pure
     |false=>
      cases e2:isFalse y with
      |true=>exact .pure
      |false=>exact .pure
    |cond g=>
     simp only
     cases e1:isTrue x with
     |true=>rw [hxt e1];exact .val (fun e=>by cases e)
     |false=>exact .val (fun e=>by cases e)
   |cond g'=>
    have h:g'=true:=h
    cases gy with
    |sure=>
     simp only
     cases e2:isFalse y with
     |true=>exact .val (fun _=>h)
     |false=>exact .val (fun _=>h)
    |cond g=>exact .val ⟨fun _=>h,(fun e=>by cases e)⟩
  |false=>
   simp only
   refine cif_ok fun h=>?_
   rw [cbool_eq]
   cases gx with
   |sure=>
    cases gy with
    |sure=>
     simp only
     cases e1:isTrue x with
     |true=>exact .pure
     |false=>
      cases e2:isFalse y with
      |true=>rw [hyf e2];exact .pure
      |false=>exact .pure
    |cond g=>
     have h:g=true:=h
     simp only
     cases e1:isTrue x with
     |true=>exact .val (fun _=>h)
     |false=>exact .val (fun _=>h)
   |cond g'=>
    cases gy with
    |sure=>
     simp only
     cases e2:isFalse y with
     |true=>rw [hyf e2];exact .val (fun e=>by cases e)
     |false=>exact .val (fun e=>by cases e)
    |cond g=>exact .val ⟨(fun e=>by cases e),fun _=>h⟩
 ·rename_i gx x' gy y' hnb hx hy
  have:cpick a cb x y=(match cb with|true=>cif (okTag gx) (.same x')|false=>cif (okTag gy) (.same y')):=by
   unfold cpick
   rw [hx,hy]
   split
   ·rename_i e1 e2
    cases e1;cases e2
    exact (hnb _ _ rfl rfl).elim
   ·rename_i e1 e2;cases e1;cases e2;rfl
   ·rename_i e1;exact (e1 _ _ _ _ rfl rfl).elim
  rw [this]
  cases cb with
  |true=>
   refine cif_ok fun h=>.same fun K k=>⟨fun _=>?_,fun e=>by cases e⟩
   cases gx with
   |sure=>exact k
   |cond b=>exact ⟨h,k⟩
  |false=>
   refine cif_ok fun h=>.same fun K k=>⟨(fun e=>by cases e),fun _=>?_⟩
   cases gy with
   |sure=>exact k
   |cond b=>exact ⟨h,k⟩
 ·rename_i h1 h2
  unfold cpick
  split
  ·rename_i e1 e2;exact (h2 _ _ _ _ e1 e2).elim
  ·rename_i e1 e2;exact (h2 _ _ _ _ e1 e2).elim
  ·exact .bad
def cPick (a:Fr) (x y:Operand):HV→OpC
 |.v (.bool cb)=>cpick a cb x y
 |_=>.bad
def cAlloc (c:Cx) (t:TypeId):OpC:=
 match hzero c t with
 |some z=>cnew t z
 |none=>.bad
def cNilCheck:HV→OpC
 |.ptr r off=>.val (.ptr r off)
 |.cptr x=>.val (.cptr x)
 |.fn f fi ca=>match f with
  |.func f=>.val (.fn (.func f) fi ca)
  |_=>.bad
 |_=>.bad
def cBin (c:Cx) (a:Fr) (op:BinOp) (t:TypeId) (x y:Operand):OpC:=
 match isNilC y with
 |true=>carg a x fun u=>cifaceNil c op t u
 |false=>carg a x fun u=>carg a y fun v=>cbinT c op t u v
def cUn (op:UnOp) (v:HV):OpC:=
 match op,v with
 |.not,.v (.bool b)=>cbool (!b)
 |.neg,.v (.int k n)=>wint k (0 - n)
 |_,_=>.bad
def cSlice (c:Cx) (a:Fr) (t:TypeId) (x:Operand) (lo hi mx:Option Operand):OpC:=carg a x fun x=>cargO a lo fun lo=>cargO a hi fun hi=>cargO a mx fun mx=>cslice c t x lo hi mx
def cExtract (i:Nat):HV→OpC
 |.tup l=>match l[i]? with
  |some y=>.val y
  |none=>.bad
 |_=>.bad
def cIface (c:Cx) (t:TypeId) (v:HV):OpC:=
 match c.ty t with
 |some ⟨_,_,_,_,.iface⟩=>.bad
 |some ⟨_,_,_,_,.other⟩=>.bad
 |some _=>.val (.iface t v)
 |none=>.bad
def cPanic:HV→OpC
 |.iface t v=>.pan (.iface t v)
 |_=>.bad
def cMakeMap (c:Cx) (t:TypeId):HV→OpC
 |.v (.int _ _)=>cmakeMap c t
 |_=>.bad
def cLoad (c:Cx) (a:Fr) (t:TypeId) (p:Operand):OpC:=carg a p fun p=>cload c t p
def cStore (c:Cx) (a:Fr) (t:TypeId) (p x:Operand):OpC:=carg a p fun p=>carg a x fun v=>cstore c t p v
def cBuild (c:Cx) (a:Fr) (t:TypeId) (ps:Array (Nat × Operand)):OpC:=cargsM a (ps.toList.map (·.2)) fun vs=>cbuild c t ((ps.toList.map (·.1)).zip vs)
def cBuildSlice (c:Cx) (a:Fr) (t:TypeId) (n:Nat) (ps:Array (Nat × Operand)):OpC:=cargsM a (ps.toList.map (·.2)) fun vs=>cbuildSlice c t n ((ps.toList.map (·.1)).zip vs)
def cMakeFunc (a:Fr) (fn:Fn) (fi ca:Array Operand):OpC:=cargsM a fi.toList fun fi=>cargsM a ca.toList fun ca=>.val (.fn fn fi ca)
def cMakeSlice (c:Cx) (a:Fr) (t:TypeId) (x y:Operand):OpC:=carg a x fun u=>carg a y fun v=>cmakeSlice c t (isZeroOp x) u v
def cIndexA (c:Cx) (a:Fr) (t:TypeId) (x i:Operand):OpC:=carg a x fun x=>carg a i fun i=>cindexAddr c t x i
def cIndex (c:Cx) (a:Fr) (t:TypeId) (x i:Operand):OpC:=carg a x fun x=>carg a i fun i=>cindex c t x i
def cLookup (c:Cx) (a:Fr) (t:TypeId) (x i:Operand) (ok:Bool):OpC:=carg a x fun u=>carg a i fun v=>clookup c t u v ok
def cPut (c:Cx) (a:Fr) (t:TypeId) (m k x:Operand):OpC:=carg a m fun m=>carg a k fun k=>carg a x fun x=>cmapPut c t m k x
def cCall (c:Cx) (a:Fr):Call→OpC
 |⟨.value f,xs,_⟩=>carg a f fun f=>cargsM a xs.toList fun xs=>ccall c f xs
 |⟨.builtin b,xs,ts⟩=>cargsM a xs.toList fun xs=>cbuiltin c b ts.toList xs
 |_=>.bad
def rMove (x:Operand) (c:Cx) (a:Fr):OpC:=carg a x .val
def rPick (b x y:Operand) (c:Cx) (a:Fr):OpC:=carg a b (cPick a x y)
def rAlloc (t:TypeId) (c:Cx) (a:Fr):OpC:=cAlloc c t
def rBox (t:TypeId) (x:Operand) (c:Cx) (a:Fr):OpC:=carg a x (cnew t)
def rBuild (t:TypeId) (ps:Array (Nat × Operand)) (c:Cx) (a:Fr):OpC:=cBuild c a t ps
def rBuildSlice (t:TypeId) (n:Nat) (ps:Array (Nat × Operand)) (c:Cx) (a:Fr):OpC:=cBuildSlice c a t n ps
def rLoad (t:TypeId) (p:Operand) (c:Cx) (a:Fr):OpC:=cLoad c a t p
def rStore (t:TypeId) (p x:Operand) (c:Cx) (a:Fr):OpC:=cStore c a t p x
def rNilCheck (x:Operand) (c:Cx) (a:Fr):OpC:=carg a x cNilCheck
def rBin (op:BinOp) (t:TypeId) (x y:Operand) (_:TypeId) (c:Cx) (a:Fr):OpC:=cBin c a op t x y
def rUn (op:UnOp) (_:TypeId) (x:Operand) (c:Cx) (a:Fr):OpC:=carg a x (cUn op)
def rConvert (src dst:TypeId) (x:Operand) (c:Cx) (a:Fr):OpC:=carg a x (cconvert c src dst)
def rIface (t:TypeId) (x:Operand) (c:Cx) (a:Fr):OpC:=carg a x (cIface c t)
def rMakeFunc (fn:Fn) (fi ca:Array Operand) (c:Cx) (a:Fr):OpC:=cMakeFunc a fn fi ca
def rMakeMap (t:TypeId) (r:Option Operand) (c:Cx) (a:Fr):OpC:=
 match r with
 |none=>cmakeMap c t
 |some x=>carg a x (cMakeMap c t)
def rMakeSlice (t:TypeId) (x y:Operand) (c:Cx) (a:Fr):OpC:=cMakeSlice c a t x y
def rSlice (t:TypeId) (x:Operand) (lo hi mx:Option Operand) (c:Cx) (a:Fr):OpC:=cSlice c a t x lo hi mx
def rFieldAddr (t:TypeId) (x:Operand) (f:Nat) (c:Cx) (a:Fr):OpC:=carg a x fun x=>cfieldAddr c t x f
def rField (t:TypeId) (x:Operand) (f:Nat) (c:Cx) (a:Fr):OpC:=carg a x fun x=>cfield c t x f
def rIndexA (t:TypeId) (x i:Operand) (c:Cx) (a:Fr):OpC:=cIndexA c a t x i
def rIndex (t:TypeId) (x i:Operand) (c:Cx) (a:Fr):OpC:=cIndex c a t x i
def rLookup (t:TypeId) (x i:Operand) (ok:Bool) (c:Cx) (a:Fr):OpC:=cLookup c a t x i ok
def rPut (t:TypeId) (m k x:Operand) (c:Cx) (a:Fr):OpC:=cPut c a t m k x
def rExtract (x:Operand) (i:Nat) (c:Cx) (a:Fr):OpC:=carg a x (cExtract i)
def rCall (cl:Call) (c:Cx) (a:Fr):OpC:=cCall c a cl
def rPanic (x:Operand) (c:Cx) (a:Fr):OpC:=carg a x cPanic
def copR (o:Op):Cx→Fr→OpC:=Op.rec (motive:=fun _=>Cx→Fr→OpC) rMove rMove rPick rAlloc rBox rBuild rBuildSlice rPut rLoad rStore
 (fun _ _ _=>.bad) (fun _ _ _=>.bad) rNilCheck rBin rUn rConvert (fun _ _ _ _=>.bad) rIface rMakeFunc rMakeMap (fun _ _ _ _=>.bad) rMakeSlice rSlice rFieldAddr rField rIndexA rIndex rLookup rPut
 (fun _ _ _ _ _=>.bad) (fun _ _ _ _ _ _=>.bad) (fun _ _ _ _=>.bad) (fun _ _ _ _=>.bad) (fun _ _ _=>.bad) (fun _ _ _ _ _ _=>.bad) rExtract rCall (fun _ _ _=>.bad) (fun _ _ _=>.bad) rPanic (fun _ _ _ _=>.bad) (fun _ _ _ _ _=>.bad) (fun _ _ _ _=>.bad) o
def cop (c:Cx) (o:Op) (a:Fr):OpC:=copR o c a
theorem ans_cnew {q:OpRes} (t:TypeId) (x:HV):Ans s q (cnew t x):=by
 unfold cnew
 split
 ·rw [forceL_eq];exact .new
 ·exact .bad
theorem ans_cmakeSlice {q:OpRes} (t:TypeId) (own:Bool) (x y:HV):Ans s q (cmakeSlice c t own x y):=by
 unfold cmakeSlice
 split
 ·exact .bad
 ·split
  ·split
   ·exact .bad
   ·split
    ·split
     ·exact cif_ok fun _=>.new
     ·exact cif_ok fun _=>by rw [forceN_eq,forceN_eq,forceL_eq];exact .new
    ·exact .bad
  ·exact .bad
theorem ans_cmakeMap {q:OpRes} (t:TypeId):Ans s q (cmakeMap c t):=by
 unfold cmakeMap
 split
 ·exact .new
 ·exact .bad
theorem cop_ok (c:Cx) (o:Op) (a:Fr) (s:HS):Ans s (hop c o a s) (cop c o a):=by
 cases o<;>simp only [hop,cop,copR,rMove,rPick,rAlloc,rBox,rBuild,rBuildSlice,rLoad,rStore,rNilCheck,rBin,rUn,rConvert,rIface,rMakeFunc,rMakeMap,rMakeSlice,rSlice,rFieldAddr,rField,rIndexA,rIndex,rLookup,rPut,rExtract,rCall,rPanic,cPick,cAlloc,cBin,cUn,cSlice,cIface,cLoad,cStore,cBuild,cBuildSlice,cMakeFunc,cMakeSlice,cIndexA,cIndex,cLookup,cPut]<;>try exact .bad
 case move x=>exact carg_ok fun v=>.pure
 case assign x=>exact carg_ok fun v=>.pure
 case pick b x y=>
  refine carg_ok fun v=>?_
  cases v<;>(first|exact .bad|skip)
  rename_i v
  cases v<;>(first|exact .bad|skip)
  exact cpick_ok a _ x y
 case alloc t=>
  cases hzero c t with
  |none=>exact .bad
  |some z=>exact ans_cnew _ _
 case box t x=>exact carg_ok fun v=>ans_cnew _ _
 case build t ps=>exact cargsM_ok fun vs=>cbuild_ok _ _
 case buildSlice t n ps=>exact cargsM_ok fun vs=>cbuildSlice_ok _ _ _
 case load t p=>exact carg_ok fun v=>cload_ok _ _
 case store t p x=>exact carg_ok fun v=>carg_ok fun v'=>cstore_ok _ _ _
 case nilCheck x=>
  refine carg_ok fun v=>?_
  cases v<;>(first|exact .bad|exact .pure|skip)
  rename_i f fi ca
  cases f<;>first|exact .bad|exact .pure
 case binOp op t x y _=>
  cases isNilC y with
  |true=>exact carg_ok fun v=>cifaceNil_ok _ _ _
  |false=>exact carg_ok fun v=>carg_ok fun v'=>cbinT_ok _ _ _ _
 case unOp op _ x=>
  refine carg_ok fun v=>?_
  cases op<;>(first|exact .bad|skip)
  all_goals cases v<;>(first|exact .bad|skip)
  all_goals rename_i v;cases v<;>(first|exact .bad|skip)
  all_goals simp only [cUn,cbool_eq,wint_eq];exact .pure
 case convert src dst x=>exact carg_ok fun v=>cconvert_ok _ _ _
 case makeFunc fn fi ca=>exact cargsM_ok fun v=>cargsM_ok fun v'=>.pure
 case makeSlice t x y=>exact carg_ok fun v=>carg_ok fun v'=>ans_cmakeSlice _ _ _ _
 case slice t x lo hi mx=>exact carg_ok fun v=>cargO_ok fun v1=>cargO_ok fun v2=>cargO_ok fun v3=>cslice_ok _ _ _ _ _
 case fieldAddr t x f=>exact carg_ok fun v=>cfieldAddr_ok _ _ _
 case field t x f=>exact carg_ok fun v=>cfield_ok _ _ _
 case indexAddr t x i=>exact carg_ok fun v=>carg_ok fun v'=>cindexAddr_ok _ _ _
 case index t x i=>exact carg_ok fun v=>carg_ok fun v'=>cindex_ok _ _ _
 case extract x i=>
  refine carg_ok fun v=>?_
  cases v<;>(first|exact .bad|skip)
  rename_i l
  simp only [cExtract]
  cases l[i]? with
  |some y=>exact .pure
  |none=>exact .bad
 case makeInterface t x=>
  refine carg_ok fun v=>?_
  simp only [cIface]
  cases c.ty t with
  |none=>exact .bad
  |some d0=>
  obtain ⟨d1,d2,d3,d4,sh⟩:=d0
  cases sh<;>first|exact .bad|exact .pure
 case panic x=>
  refine carg_ok fun v=>?_
  cases v<;>(first|exact .bad|skip)
  exact .pan trivial
 case makeMap t r=>
  cases r with
  |none=>exact ans_cmakeMap _
  |some x=>
   refine carg_ok fun v=>?_
   cases v<;>(first|exact .bad|skip)
   rename_i v
   cases v<;>first|exact .bad|exact ans_cmakeMap _
 case lookup t x i ok=>exact carg_ok fun v=>carg_ok fun v'=>clookup_ok _ _ _ _
 case insert t m k x=>exact carg_ok fun v=>carg_ok fun v'=>carg_ok fun v''=>cmapPut_ok _ _ _ _
 case mapUpdate t m k x=>exact carg_ok fun v=>carg_ok fun v'=>carg_ok fun v''=>cmapPut_ok _ _ _ _
 case call cl=>
  obtain ⟨callee,xs,ts⟩:=cl
  cases callee with
  |value f=>exact carg_ok fun v=>cargsM_ok fun v'=>ccall_ok _ _
  |invoke r m=>exact .bad
  |builtin b=>exact cargsM_ok fun v=>cbuiltin_ok _ _ _
end
end Go.Proofs.Hk

set_option linter.unusedVariables false
namespace Go.Proofs.Hk
noncomputable section
open Go
/-! What waits for an operation by way of others waits for it too. -/
section
variable (P:Program) (n:Nat) (ops:Array Oper) (t:HS) (E R:Nat→Option Nat)
/-- Each of W waits for i, or for one of W. -/
def WaitOk (i:Nat) (W:List Nat):Prop:=∀ j∈W,∃ oj,ops[j]? = some oj∧∃ e∈oj.after,Region.binds .any e=true∧(e.on=i∨e.on∈W)
theorem wpAnyN_firstW {Q:GF→List HS→Prop} {i:Nat} {oi:Oper} {e:Tag × HV} (hi:ops[i]? = some oi) (W:List Nat) (hW:WaitOk ops i W) :
  ∀ (fuel:Nat) (listed:Array Bool) (g:GF) (a a':List HS),(∀ j∈W,listed.getD j true=false)→
   (∀ j oj,ops[j]? = some oj→j≠i→listed.getD j true=false→(∀ e∈oj.after,Region.binds .any e=true→e.on≠i)→j∉W→apartN ops E R i j oi oj=true)→
   i∈Region.ready .any ops listed→YFN P n ops t E R i oi g a e a'→
   wpAnyN P n ops t E R Q fuel (listed.setIfInBounds i true) (gput g oi.dst e) a'→wpAnyN P n ops t E R Q (fuel+1) listed g a:=by
 intro fuel
 induction fuel with
 |zero=>
  intro listed g a a' _ _ hr hy H
  refine ⟨fun h=>(by rw [h] at hr;cases hr),fun j hj=>?_⟩
  by_cases hji:j=i
  ·subst hji;exact hy.qOp P n ops t E R hi H
  ·have:=ready_mono hj hji
   rw [H.1] at this
   cases this
 |succ fuel ih=>
  intro listed g a a' hWu hfree hr hy H
  refine ⟨fun h=>(by rw [h] at hr;cases hr),fun j hj=>?_⟩
  by_cases hji:j=i
  ·subst hji;exact hy.qOp P n ops t E R hi H
  ·have h1:=H.2 j (ready_mono hj hji)
   obtain ⟨hjun,oj,hoj,hall⟩:=mem_ready.1 hj
   have hdiff:∀ k,listed.getD k true=false→∀ e∈oj.after,Region.binds .any e=true→e.on≠k:=fun k h0 e he hb heq=>by
    have h1:=hall e he hb
    rw [heq] at h1
    rcases Nat.lt_or_ge k listed.size with h'|h'
    ·simp [h'] at h0 h1;rw [h0] at h1;cases h1
    ·simp [Array.getElem?_eq_none h'] at h1
   have hnot:=hdiff i (mem_ready.1 hr).1
   have hjW:j∉W:=fun hm=>by
    obtain ⟨oj',h3,e,he,hb,h4⟩:=hW j hm
    rw [hoj] at h3
    cases h3
    rcases h4 with h4|h4
    ·exact hnot e he hb h4
    ·exact hdiff e.on (hWu _ h4) e he hb rfl
   have h2:=qOpN_put P n ops t E R hoj (hfree j oj hoj hji hjun hnot hjW) hy h1
   have hfree':∀ k ok,ops[k]? = some ok→k≠i→(listed.setIfInBounds j true).getD k true=false→
     (∀ e∈ok.after,Region.binds .any e=true→e.on≠i)→k∉W→apartN ops E R i k oi ok=true:=fun k ok hk hki hun hno hkW=>by
    refine hfree k ok hk hki ?_ hno hkW
    by_cases hjk:j=k
    ·subst hjk;exact hjun
    ·rw [getD_set_ne true hjk] at hun;exact hun
   have hWu':∀ k∈W,(listed.setIfInBounds j true).getD k true=false:=fun k hk=>by
    have:j≠k:=fun e=>hjW (e ▸ hk)
    rw [getD_set_ne true this];exact hWu k hk
   refine qOpN_mono P n ops t E R (fun g1 a1 ⟨a2,h3,h4⟩=>ih (listed.setIfInBounds j true) g1 a1 a2 hWu' hfree' (ready_mono hr (Ne.symm hji)) h3 ?_) h2
   rw [Array.setIfInBounds_comm _ _ hji]
   exact h4
def waitB (i:Nat) (acc:List Nat) (o:Oper):Bool:=o.after.any fun e=>Region.binds .any e && (Nat.beq e.on i||memN e.on acc)
/-- What waits for i, of the operations from j on. -/
def waitsL (i:Nat):List Oper→Nat→List Nat→List Nat
 |[],_,acc=>acc
 |o::l,j,acc=>match waitB i acc o with
  |true=>waitsL i l (j+1) (j::acc)
  |false=>waitsL i l (j+1) acc
theorem waitsL_ok (i:Nat):∀ (l pre:List Oper) (acc:List Nat),ops.toList=pre ++ l→WaitOk ops i acc→WaitOk ops i (waitsL i l pre.length acc)
 |[],_,acc,_,h=>h
 |o::l,pre,acc,e,h=>by
  have e':ops.toList=(pre ++ [o]) ++ l:=by simp [e]
  have hl:(pre ++ [o]).length=pre.length+1:=by simp
  simp only [waitsL]
  cases hb:waitB i acc o with
  |false=>have:=waitsL_ok i l (pre ++ [o]) acc e' h;rw [hl] at this;exact this
  |true=>
   simp only
   have:=waitsL_ok i l (pre ++ [o]) (pre.length::acc) e' (fun j hj=>?_)
   ·rw [hl] at this;exact this
   ·rcases List.mem_cons.1 hj with rfl|hj
    ·refine ⟨o,?_,?_⟩
     ·rw [←Array.getElem?_toList,e];simp
     ·obtain ⟨x,hx,hb⟩:=Array.any_eq_true'.1 hb
      simp only [Bool.and_eq_true,Bool.or_eq_true] at hb
      refine ⟨x,hx,hb.1,?_⟩
      rcases hb.2 with h1|h1
      ·exact .inl (Nat.eq_of_beq_eq_true h1)
      ·exact .inr (List.mem_cons_of_mem _ (memN_iff.1 h1))
    ·obtain ⟨oj,h1,x,hx,hb,h2⟩:=h j hj
     exact ⟨oj,h1,x,hx,hb,h2.imp id (List.mem_cons_of_mem _)⟩
def waitsOf (i:Nat):List Nat:=waitsL i ops.toList 0 []
theorem waitsOf_ok (i:Nat):WaitOk ops i (waitsOf ops i):=waitsL_ok ops i ops.toList [] [] rfl (fun j hj=>by cases hj)
def unlisted (listed:Array Bool):List Nat→Bool
 |[]=>true
 |j::l=>!(listed.getD j true) && unlisted listed l
theorem unlisted_is {listed:Array Bool} : ∀ {l:List Nat},unlisted listed l=true→∀ j∈l,listed.getD j true=false
 |[],_,j,hj=>by cases hj
 |k::l,h,j,hj=>by
  simp only [unlisted,Bool.and_eq_true,Bool.not_eq_true'] at h
  rcases List.mem_cons.1 hj with rfl|hj
  ·exact h.1
  ·exact unlisted_is h.2 j hj
def freeW1 (listed:Array Bool) (i:Nat) (W:List Nat):Bool:=
 match ops[i]? with
 |none=>false
 |some oi=>unlisted listed W && (List.range ops.size).all fun j=>j == i||listed.getD j true||memN j W||match ops[j]? with
   |some oj=>apartN ops E R i j oi oj
   |none=>true
def freeW (listed:Array Bool) (i:Nat):Bool:=freeW1 ops E R listed i (waitsOf ops i)
def lexW:List Nat→Array Bool→Bool
 |[],listed=>(Region.ready .any ops listed).isEmpty
 |k::l,listed=>(Region.ready .any ops listed).contains k && (freeN ops E R listed k||freeW ops E R listed k) && lexW l (listed.setIfInBounds k true)
theorem wpAnyN_lexW {Q:GF→List HS→Prop} : ∀ (l:List Nat) (listed:Array Bool) (g:GF) (a:List HS),lexW ops E R l listed=true→textN P n ops t E R Q l g a→wpAnyN P n ops t E R Q l.length listed g a
 |[],_,_,_,hB,h=>⟨by simpa [lexW] using hB,h⟩
 |k::l,listed,g,a,hB,h=>by
  simp only [lexW,Bool.and_eq_true] at hB
  obtain ⟨⟨hr,hf⟩,hB'⟩:=hB
  have hr':k∈Region.ready .any ops listed:=by simpa using hr
  obtain ⟨_,o,h0,_⟩:=mem_ready.1 hr'
  obtain ⟨e,a',hy,hK⟩:=yfN_of_qOp P n ops t E R h0 h
  rcases Bool.or_eq_true _ _ ▸ hf with hf|hf
  ·exact wpAnyN_first P n ops t E R h0 l.length listed g a a' (freeN_spec ops E R h0 hf) hr' hy (wpAnyN_lexW l _ _ _ hB' hK)
  ·have hf:freeW1 ops E R listed k (waitsOf ops k)=true:=hf
   simp only [freeW1,h0,Bool.and_eq_true] at hf
   refine wpAnyN_firstW P n ops t E R h0 (waitsOf ops k) (waitsOf_ok ops k) l.length listed g a a' (unlisted_is hf.1) (fun j oj hj hne hun hno hjW=>?_) hr' hy (wpAnyN_lexW l _ _ _ hB' hK)
   have h1:=List.all_eq_true.1 hf.2 j (List.mem_range.2 (Array.getElem?_eq_some_iff.1 hj).1)
   have h2:memN j (waitsOf ops k)=false:=by
    cases h:memN j (waitsOf ops k) with
    |false=>rfl
    |true=>exact absurd (memN_iff.1 h) hjW
   simpa [hj,hne,hun,h2] using h1
end
theorem drawW (c:Cx) {n id:Nat} {ops:Array Oper} {Q:HExit→Fr→HS→Prop} {f:Fr} {s:HS} (ps:List HS) {m t:HS} (e:ps.flatten=m) (E R:List (List Nat)) (l:List Nat) (hp:HTake s m t) (hl:l.length=ops.size) (hB:lexW ops (partOf E 0) (partOf R 0) l (Array.replicate ops.size false)=true)
  (h:DN c n ops t E R Q l f ps):DrawReg c.P n id ops Q f s:=
 ⟨⟨fun G w ra hs hf=>by
  subst e
  have hs':SRel G (ps.flatten ++ t) w:=hs.permd hp.perm.symm
  refine wpB_region_any c.orders ?_
  have H:=wpAnyN_lexW c.P n ops t (partOf E 0) (partOf R 0) l _ _ _ hB h.out
  rw [hl] at H
  have hp0:Post (ps.flatten ++ t) G w (ps.flatten ++ t) G { w with drawn:=w.drawn+1}:=Post.drawn hs' rfl rfl rfl rfl
  refine wpAny_of_N c.P n ops t (partOf E 0) (partOf R 0) hs' (fun g a' G' w' ra' hp' hf' ⟨f',e,hQ⟩=>?_) ops.size _ _ ps G _ ra hp0 ⟨hf.size,hf.defers,hf.slots⟩ H
  subst e
  exact ⟨.normal,f',a'.flatten ++ t,G',hQ,trivial,⟨hf'.size,hf'.defers,hf'.slots⟩,hp'.permL hp.perm⟩⟩⟩
end
end Go.Proofs.Hk

set_option linter.unusedVariables false
set_option linter.unusedSimpArgs false
namespace Go.Proofs.Hk
open Go
/-! Loops over functions: the record. -/
def Ghost.loopAs (G:Ghost) (v D:Nat):Ghost:=
 {G with om:=fun q=>if q=v then some (D+1) else G.om q,role:=fun b=>if b=D∨b=D+1 then some v else G.role b}
theorem loopAs_le {G:Ghost} {s:HS} {w:World} {r:Nat} (h:SRel G ((r,.void)::s) w) (D:Nat):G.Le (G.loopAs r D):=by
 obtain ⟨h0,h1,h2,h3⟩:=h.holds r .void List.mem_cons_self
 exact ⟨fun _ _ _ e=>e,fun q b e=>by
  simp only [Ghost.loopAs]
  split
  ·rename_i hq;subst hq;rw [h1] at e;cases e
  ·exact e,fun _ t e=>⟨t,e,Nat.le_refl _,fun _=>rfl⟩,rfl⟩
theorem post_loopAs {G:Ghost} {s:HS} {w:World} {r:Nat} (h:SRel G ((r,.void)::s) w) (o1 o2:Obj) (x:Res) (hx:holds (G.loopAs r w.heap.size) (World.pushed (World.pushed w o1) o2) r x) :
  Post ((r,.void)::s) G w ((r,x)::s) (G.loopAs r w.heap.size) (World.pushed (World.pushed w o1) o2):=by
 obtain ⟨h0,h1,h2,h3⟩:=h.holds r .void List.mem_cons_self
 have le:=loopAs_le h w.heap.size
 have hsz:(World.pushed w o1).heap.size=w.heap.size+1:=by simp [World.pushed]
 have hb:∀ b,b < w.heap.size→(World.pushed (World.pushed w o1) o2).heap[b]? = w.heap[b]?∧(G.loopAs r w.heap.size).role b=G.role b∧∀ o,(G.loopAs r w.heap.size).K b o=G.K b o:=fun b hb=>
  ⟨(pushed_lt _ o2 (by omega)).trans (pushed_lt w o1 hb),by simp only [Ghost.loopAs];rw [if_neg (by omega)],fun _=>rfl⟩
 have hnd:=h.keys
 simp only [keys,List.map_cons,List.nodup_cons] at hnd
 have hv:∀ q,q≠r→G.om q=none→G.top q=none→(∀ b,G.role b≠some q)→(G.loopAs r w.heap.size).om q=none∧(G.loopAs r w.heap.size).top q=none∧∀ b,(G.loopAs r w.heap.size).role b≠some q:=fun q hq a1 a2 a3=>by
  simp only [Ghost.loopAs]
  refine ⟨by rw [if_neg hq];exact a1,a2,fun b=>?_⟩
  split
  ·simp;exact fun e=>hq e.symm
  ·exact a3 b
 refine ⟨⟨fun b off v e=>pushed_cell _ o2 (pushed_cell w o1 (h.kw b off v e)),?_,fun q y hy=>?_,fun q hq=>?_,fun b q e=>?_⟩,⟨le,by simp [World.pushed];omega,fun b hlt _=>hb b hlt,fun _ tp e _=>e,Nat.le_refl _,rfl,rfl,rfl,fun q _ hk a1 a2 a3=>hv q (fun e=>hk (by simp [keys,e])) a1 a2 a3⟩,fun q hq=>.inl ?_⟩
 ·simp only [keys,List.map_cons,List.nodup_cons];exact hnd
 ·rcases List.mem_cons.1 hy with hy|hy
  ·cases hy;exact hx
  ·have hne:q≠r:=fun e=>hnd.1 (e ▸ List.mem_map.2 ⟨_,hy,rfl⟩)
   have ho:=h.holds q y (List.mem_cons_of_mem _ hy)
   exact ho.agree1 h le hb (fun _ _ e=>e) fun b0 b1 b2 b3=>by
    obtain ⟨c1,c2,c3⟩:=hv q hne b1 b2 b3
    exact ⟨b0,c1,c2,c3⟩
 ·have:=h.fresh q hq
  simp only [Ghost.loopAs]
  have hq:G.lim≤q:=hq
  rw [if_neg (by omega)]
  exact this
 ·simp only [Ghost.loopAs,World.pushed,Array.size_push] at e ⊢
  split at e
  ·rename_i hb;cases e;omega
  ·have:=h.role b q e;omega
 ·simpa [keys] using hq
theorem loopAs_new {c:Cx} {G:Ghost} {s:HS} {w:World} {r:Nat} (h:SRel G ((r,.void)::s) w) {n:Nat} {a:Fr} {tmps:Array Value} (hf:frR G n a tmps) (fid:FuncId) (ps:Array Tmp) (asg bdy:Code) :
  (Instr.enterLoop fid tmps ps asg bdy none).run c.P w = .ok (w.heap.size+1,[{ target:=.collected w.heap.size,args:=#[]}]) (World.pushed (World.pushed w (.deferred (some []))) (.loop (LoopR.obj ⟨n,a,ps,asg,bdy,false,none⟩ fid tmps w.heap.size)))∧
  Post ((r,.void)::s) G w ((r,.loop ⟨n,a,ps,asg,bdy,false,none⟩)::s) (G.loopAs r w.heap.size) (World.pushed (World.pushed w (.deferred (some []))) (.loop (LoopR.obj ⟨n,a,ps,asg,bdy,false,none⟩ fid tmps w.heap.size))):=by
 have hsz:(World.pushed w (.deferred (some []))).heap.size=w.heap.size+1:=by simp [World.pushed]
 refine ⟨run_enterLoop_outer _ _ _ _ _,post_loopAs h _ _ _ ?_⟩
 refine ⟨w.heap.size+1,w.heap.size,fid,tmps,rfl,by simp [Ghost.loopAs],by simp [Ghost.loopAs],?_,hf.mono0 (loopAs_le h _).to0,by simp [Ghost.loopAs],?_,fun o=>h.K_new (by omega) o,fun o=>h.K_new (Nat.le_refl _) o⟩
 ·rw [←hsz];exact pushed_new _ _
 ·rw [pushed_lt _ _ (by omega)];exact pushed_new _ _
theorem loop_put {G:Ghost} {s:HS} {w:World} {r:Nat} {L:LoopR} (h:SRel G ((r,.loop L)::s) w) (L':LoopR) (hn:L'.n=L.n) (ha:L'.a=L.a) :
  ∃ b D fid tmps,b=D+1∧G.om r=some b∧G.role b=some r∧w.heap[b]? = some (.loop (L.obj fid tmps D))∧frR G L.n L.a tmps∧G.role D=some r∧w.heap[D]? = some (.deferred (some []))∧(∀ o,G.K D o=none)∧
   Post ((r,.loop L)::s) G w ((r,.loop L')::s) G (w.putObj b (.loop (L'.obj fid tmps D)))∧(w.putObj b (.loop (L'.obj fid tmps D))).heap[D]? = some (.deferred (some [])):=by
 obtain ⟨b,D,fid,tmps,bD,e,ro,hb,hc,hD,hd,hK,hK'⟩:=h.holds r _ List.mem_cons_self
 have hbD:D≠b:=fun e=>by rw [e,hb] at hd;cases hd
 have hlt:b < w.heap.size:=(h.role b r ro).1
 have hd':(w.putObj b (.loop (L'.obj fid tmps D))).heap[D]? = some (.deferred (some [])):=(World.putObj_heap_other hbD).trans hd
 refine ⟨b,D,fid,tmps,bD,e,ro,hb,hc,hD,hd,hK',?_,hd'⟩
 have hs1:SRel G [(r,.loop L)] w:=h.sub (by simp [keys]) fun x hx=>by simp at hx;subst hx;exact List.mem_cons_self
 have hcell:∀ b' o v,G.K b' o=some v→(w.putObj b (.loop (L'.obj fid tmps D))).cell? ⟨b',o,none⟩=some v:=fun b' o v hv=>by
  have hne:b'≠b:=fun e=>by rw [e,hK] at hv;cases hv
  have:=h.kw b' o v hv
  simp only [World.cell?] at this ⊢
  rw [World.putObj_heap_other hne];exact this
 have p1:Post [(r,.loop L)] G w [(r,.loop L')] G (w.putObj b (.loop (L'.obj fid tmps D))):=by
  refine ⟨⟨hcell,by simp [keys],fun q x hx=>?_,h.fresh,fun b' q e=>by rw [World.putObj_size];exact h.role b' q e⟩,⟨.refl G,by rw [World.putObj_size];exact Nat.le_refl _,fun b' hb' hr=>⟨?_,rfl,fun _=>rfl⟩,fun _ _ e _=>e,Nat.le_refl _,rfl,rfl,rfl,fun _ _ _ a b c=>⟨a,b,c⟩⟩,fun q hq=>.inl (by simpa [keys] using hq)⟩
  ·simp at hx
   obtain ⟨rfl,rfl⟩:=hx
   exact ⟨b,D,fid,tmps,bD,e,ro,World.putObj_heap_same hlt,by rw [hn,ha];exact hc,hD,hd',hK,hK'⟩
  ·refine World.putObj_heap_other fun e=>?_
   subst e
   exact hr r ro (by simp [keys])
 exact Post.frame (s:=[(r,.loop L)]) (t:=s) h p1
theorem loop_drop {G:Ghost} {s:HS} {w:World} {r:Nat} {L:LoopR} (h:SRel G ((r,.loop L)::s) w) :
  ∃ D fid tmps,G.om r=some (D+1)∧w.heap[D+1]? = some (.loop (L.obj fid tmps D))∧G.role D=some r∧(∀ o,G.K D o=none)∧
   ∀ o:Loop,Post ((r,.loop L)::s) G w s G (w.putObj (D+1) (.loop o))∧(w.putObj (D+1) (.loop o)).heap[D]? = some (.deferred (some [])):=by
 obtain ⟨b,D,fid,tmps,bD,e,ro,hb,hc,hD,hd,hK,hK'⟩:=h.holds r _ List.mem_cons_self
 subst bD
 refine ⟨D,fid,tmps,e,hb,hD,hK',fun o=>⟨?_,(World.putObj_heap_other (by omega)).trans hd⟩⟩
 have hs1:SRel G [(r,.loop L)] w:=h.sub (by simp [keys]) fun x hx=>by simp at hx;subst hx;exact List.mem_cons_self
 have p1:Post [(r,.loop L)] G w [] G (w.putObj (D+1) (.loop o)):=by
  refine ⟨⟨fun b' o v hv=>?_,by simp [keys],fun q x hx=>(by cases hx),h.fresh,fun b' q e=>by rw [World.putObj_size];exact h.role b' q e⟩,⟨.refl G,by rw [World.putObj_size];exact Nat.le_refl _,fun b' hb' hr=>⟨?_,rfl,fun _=>rfl⟩,fun _ _ e _=>e,Nat.le_refl _,rfl,rfl,rfl,fun _ _ _ a b c=>⟨a,b,c⟩⟩,fun q hq=>(by cases hq)⟩
  ·have hne:b'≠D+1:=fun e=>by rw [e,hK] at hv;cases hv
   have:=h.kw b' o v hv
   simp only [World.cell?] at this ⊢
   rw [World.putObj_heap_other hne];exact this
  ·refine World.putObj_heap_other fun e=>?_
   subst e
   exact hr r ro (by simp [keys])
 exact Post.frame (s:=[(r,.loop L)]) (t:=s) h p1
/-- Parameters. -/
def putPs (n:Nat):List Tmp→List HV→Fr→Option Fr
 |[],[],a=>some a
 |t::ts,x::xs,a=>match Nat.blt t n with
  |true=>putPs n ts xs ((t,.sure,x)::a)
  |false=>none
 |_,_,_=>none
theorem frR_set {G:Ghost} {n:Nat} {a:Fr} {tmps:Array Value} (h:frR G n a tmps) {t:Tmp} (ht:t < n) {x:HV} {u:Value} (hx:rel G x u):frR G n ((t,.sure,x)::a) (tmps.setIfInBounds t u):=by
 refine ⟨by simpa using h.1,fun s g y e=>?_⟩
 simp only [Fr.get] at e
 split at e
 ·rename_i hs
  have:=Nat.eq_of_beq_eq_true hs
  subst this
  cases e
  refine ⟨ht,?_⟩
  have:(tmps.setIfInBounds t u).getD t undef=u:=by
   simp only [Array.getD_eq_getD_getElem?]
   rw [Array.getElem?_setIfInBounds_self_of_lt (by rw [h.1];exact ht)];rfl
  rw [this];exact hx
 ·rename_i hs
  have hne:t≠s:=fun e=>by subst e;simp at hs
  have:=h.2 s g y e
  refine ⟨this.1,?_⟩
  have e2:(tmps.setIfInBounds t u).getD s undef=tmps.getD s undef:=by
   simp only [Array.getD_eq_getD_getElem?]
   rw [Array.getElem?_setIfInBounds_ne hne]
  rw [e2];exact this.2
theorem frR_putPs {G:Ghost} {n:Nat} : ∀ {ts:List Tmp} {xs:List HV} {us:List Value} {a a1:Fr} {tmps:Array Value},frR G n a tmps→relVs G xs us→putPs n ts xs a=some a1→us.length=ts.length∧frR G n a1 ((ts.zip us).foldl (fun t (p:Tmp × Value)=>t.setIfInBounds p.1 p.2) tmps)
 |[],[],us,a,a1,tmps,h,hx,e=>by
  simp only [relVs] at hx
  subst hx
  simp only [putPs,Option.some.injEq] at e
  subst e
  exact ⟨rfl,h⟩
 |t::ts,x::xs,us,a,a1,tmps,h,hx,e=>by
  rw [relVs_cons] at hx
  obtain ⟨u,us',rfl,h1,h2⟩:=hx
  simp only [putPs] at e
  split at e
  ·rename_i ht
   have ht:t < n:=by simpa [Nat.blt_eq] using ht
   obtain ⟨g1,g2⟩:=frR_putPs (frR_set h ht h1) h2 e
   exact ⟨by simp [g1],g2⟩
  ·cases e
 |[],_::_,_,_,_,_,_,_,e=>by simp [putPs] at e
 |_::_,[],_,_,_,_,_,_,e=>by simp [putPs] at e
theorem frR.frel {G:Ghost} {n:Nat} {a:Fr} {tmps:Array Value} (h:frR G n a tmps):FRel (G.on []) n a { tmps:=tmps,defers:=[]}:=
 ⟨h.1,rfl,(h.mono0 (G.on_le [])).2⟩
theorem Post.permR' {s s' s'':HS} {G G':Ghost} {w w':World} (k:Post s G w s' G' w') (p:s'.Perm s''):Post s G w s'' G' w':=
 k.sub (((p.map _).nodup_iff).1 k.srel.keys) fun _ hx=>p.mem_iff.2 hx
/-- Beside a loop's record. -/
theorem Post.beside {s s':HS} {G G':Ghost} {w w':World} {e:Nat × Res} (h:SRel G (e::s) w) (k:Post s G w s' G' w'):Post (e::s) G w (e::s') G' w':=by
 have:=Post.frame (t:=[e]) (h.permd (List.perm_append_comm (l₁:=[e]) (l₂:=s))) k
 exact (this.permL (List.perm_append_comm (l₁:=s) (l₂:=[e]))).permR' (List.perm_append_comm (l₁:=s') (l₂:=[e]))
theorem SRel.tail {G:Ghost} {s:HS} {w:World} {e:Nat × Res} (h:SRel G (e::s) w):SRel G s w:=h.perm (List.sublist_cons_self e s)
/-- How a round ends. -/
def roundQ (r:Nat) (L:LoopR) (R:Bool→HS→Prop):HExit→Fr→HS→Prop
 |.normal,_,s=>R true ((r,.loop L)::s)
 |.ret,_,s=>R false ((r,.loop { L with pend:=some .ret})::s)
 |.exit id,_,s=>R false ((r,.loop { L with pend:=some (.exit id)})::s)
 |.pan _,_,_=>False
theorem round_ok {c:Cx} {r:Nat} {L:LoopR} {a1:Fr} {s0:HS} {xs:List HV} (hb:L.busy=false) (hp:L.pend=none) (hd:noDef L.asg=true) (hd2:noDef L.bdy=true) (hput:putPs L.n L.ps.toList xs L.a=some a1)
  {R:Bool→HS→Prop} (h:SemWp c.P L.n L.asg (fun e a2 s2=>e = .normal∧SemWp c.P L.n L.bdy (roundQ r L R) a2 s2) a1 s0)
  {G:Ghost} {w:World} {vs:Array Value} (hs:SRel G ((r,.loop L)::s0) w) (hv:relVs G xs vs.toList) :
  ∃ b fid tmps,G.om r=some b∧(Instr.yield b vs).run c.P w = .ok (.round b fid tmps L.asg L.bdy) w∧
   RoundIn Fence.wide 0 c.P b fid tmps L.asg L.bdy w fun e w'=>∃ t s' G',e = .returned (.bool t)∧R t s'∧Post ((r,.loop L)::s0) G w s' G' w':=by
 have hs0:SRel (G.on []) ((r,.loop L)::s0) w:=hs.on []
 obtain ⟨b,D,fid,tmps,_,e,ro,hbk,hc,hD,hdd,hKD,_,_⟩:=loop_put hs L rfl rfl
 obtain ⟨hlen,hfr⟩:=frR_putPs hc hv hput
 have hvs:vs.size=L.ps.size:=by simpa using hlen
 have hst:(L.obj fid tmps D).state = .ready:=by simp [LoopR.obj,LoopR.st,hb,hp]
 have hfold:(L.ps.toList.zip vs.toList).foldl (fun t (p:Tmp × Value)=>t.setIfInBounds p.1 p.2) tmps=((L.obj fid tmps D).params.zip vs).foldl (fun tmps (t,a)=>tmps.setIfInBounds t a) (L.obj fid tmps D).tmps:=by
  show _=(L.ps.zip vs).foldl _ tmps
  rw [←Array.foldl_toList,Array.toList_zip]
 rw [hfold] at hfr
 refine ⟨b,fid,_,e,run_yield hbk hvs,roundIn_of_wpIn trivial ?_⟩
 have w1:=(h.out (G.on []) w _ hs0.tail hfr.frel) (some b) fun _=>hd
 refine wpIn_mono w1 fun e1 ra2 w2 ⟨he,a2,s2,G2,⟨hn,hsem⟩,hr,hf2,hp2⟩=>?_
 subst hn
 cases e1<;>first|exact hr.elim|skip
 have q1:=Post.beside hs0 hp2
 obtain ⟨b2,D2,fid2,tmps2,_,e2,ro2,hbk2,hc2,hD2,hdd2,hKD2,q2,hh2⟩:=loop_put q1.srel { L with busy:=true} rfl rfl
 have hom:b2=b:=by
  have:=q1.ext.le.om r b e
  rw [e2] at this;cases this;rfl
 subst hom
 have hst2:(L.obj fid2 tmps2 D2).state = .ready:=by simp [LoopR.obj,LoopR.st,hb,hp]
 refine ⟨_,run_beginRound hbk2 hst2,?_⟩
 have hobj:({ L.obj fid2 tmps2 D2 with state:=.busy} : Loop)=LoopR.obj { L with busy:=true} fid2 tmps2 D2:=by simp [LoopR.obj,LoopR.st]
 rw [hobj]
 have w3:=(hsem.out G2 _ ra2 q2.srel.tail hf2) (some b2) fun _=>hd2
 refine wpIn_mono w3 fun e3 ra3 w4 ⟨he3,a3,s3,G3,hq3,hr3,hf3,hp3⟩=>?_
 have q3:=Post.beside q2.srel hp3
 have fin:∀ (jump:Option Code) (L':LoopR),L' = { L with pend:=jump}→R jump.isNone ((r,.loop L')::s3)→∃ v w',(Instr.endRound b2 jump).run c.P w4 = .ok v w'∧∃ t s' G',Ending.returned v = .returned (.bool t)∧R t s'∧Post ((r,.loop L)::s0) G w s' G' w':=by
  intro jump L' hL' hR
  subst hL'
  obtain ⟨b4,D4,fid4,tmps4,_,e4,ro4,hbk4,hc4,hD4,hdd4,hKD4,q4,hh4⟩:=loop_put q3.srel { L with pend:=jump} rfl rfl
  have hom4:b4=b2:=by
   have:=q3.ext.le.om r b2 (q2.ext.le.om r b2 e2)
   rw [e4] at this;cases this;rfl
  subst hom4
  refine ⟨_,_,run_endRound jump hbk4,jump.isNone,_,G3.on G.df,rfl,hR,?_⟩
  have hobj4:({ LoopR.obj { L with busy:=true} fid4 tmps4 D4 with state:=if jump.isNone then .ready else .done,pending:=jump} : Loop)=LoopR.obj { L with pend:=jump} fid4 tmps4 D4:=by simp [LoopR.obj,LoopR.st,hb]
  rw [hobj4]
  exact (((q1.trans hs0 q2).trans hs0 q3).trans hs0 q4).on
 cases he3 with
 |normal=>
  cases e3<;>first|exact hr3.elim|skip
  exact fin none L (by rw [←hp]) hq3
 |ret=>
  cases e3<;>first|exact hr3.elim|skip
  exact fin (some .ret) _ rfl hq3
 |exit i=>
  cases e3<;>first|exact hr3.elim|skip
  have hi:i=_:=hr3
  subst hi
  exact fin (some (.exit i)) _ rfl hq3
 |pan x=>exact hq3.elim
end Go.Proofs.Hk

set_option linter.unusedVariables false
set_option linter.unusedSimpArgs false
namespace Go.Proofs.Hk
open Go
/-! Functions that hold loops over functions: what is put off are the marks of loops that are over. -/
def mark (D:Nat):Deferred:={ target:=.collected D,args:=#[]}
structure Dfs (B:Nat) (G:Ghost) (s:HS) (w:World):Prop where
 nodup:G.df.Nodup
 out:∀ m∈G.df,∃ D,m=mark D∧B≤D∧w.heap[D]? = some (.deferred (some []))∧(∀ o,G.K D o=none)∧∃ r,G.role D=some r∧r∉keys s
theorem Dfs.post {B:Nat} {s s':HS} {G G':Ghost} {w w':World} (h:Dfs B G s w) (hs:SRel G s w) (k:Post s G w s' G' w'):Dfs B G' s' w':=
 ⟨by rw [k.ext.le.df];exact h.nodup,fun m hm=>by
  rw [k.ext.le.df] at hm
  obtain ⟨D,h1,h2,h3,h4,r,h5,h6⟩:=h.out m hm
  obtain ⟨g1,g2,g3⟩:=k.ext.blocks D (hs.role D r h5).1 fun r' e hr=>by rw [h5] at e;cases e;exact h6 hr
  refine ⟨D,h1,h2,g1.trans h3,fun o=>(g3 o).trans (h4 o),r,g2.trans h5,fun hr=>?_⟩
  rcases k.names r hr with hk|hk
  ·exact h6 hk
  ·exact absurd (hs.role D r h5).2 (by omega)⟩
structure PostM (B:Nat) (s:HS) (G:Ghost) (w:World) (s':HS) (G':Ghost) (w':World):Prop where
 post:Post s G w s' (G'.on G.df) w'
 dfs:Dfs B G' s' w'
theorem Post.onD {s s':HS} {G G':Ghost} {w w':World} (k:Post s G w s' (G'.on G.df) w') (D:List Deferred):Post s (G.on D) w s' (G'.on D) w':=
 Post.on (G:=G.on D) (D:=G.df) (G':=G'.on G.df) k
theorem PostM.srel {B:Nat} {s s':HS} {G G':Ghost} {w w':World} (k:PostM B s G w s' G' w'):SRel G' s' w':=k.post.srel.on G'.df
theorem PostM.refl {B:Nat} {s:HS} {G:Ghost} {w:World} (hs:SRel G s w) (h:Dfs B G s w):PostM B s G w s G w:=⟨.refl hs,h⟩
theorem PostM.of {B:Nat} {s s':HS} {G G':Ghost} {w w':World} (hs:SRel G s w) (h:Dfs B G s w) (k:Post s G w s' G' w'):PostM B s G w s' G' w':=
 ⟨by
  have e:G'.on G.df=G':=by rw [←k.ext.le.df];rfl
  rw [e];exact k,h.post hs k⟩
theorem PostM.trans {B:Nat} {s s1 s2:HS} {G G1 G2:Ghost} {w w1 w2:World} (hs:SRel G s w) (h:PostM B s G w s1 G1 w1) (k:PostM B s1 G1 w1 s2 G2 w2):PostM B s G w s2 G2 w2:=
 ⟨h.post.trans hs (k.post.onD G.df),k.dfs⟩
theorem FRel.onM {G:Ghost} {n:Nat} {a:Fr} {ra:Act} (h:FRel G n a ra):FRel (G.on ra.defers) n a ra:=by
 have e:G.on ra.defers=G:=by rw [h.defers];rfl
 rw [e];exact h
structure SemM (P:Program) (n:Nat) (code:Code) (Q:HExit→Fr→HS→Prop) (a:Fr) (s:HS):Prop where
 out:∀ B G w ra,B≤w.heap.size→SRel G s w→Dfs B G s w→FRel G n a ra→code.wp P (fun e ra' w'=>∃ he a' s' G',Q he a' s'∧exitRel G' he e∧FRel G' n a' ra'∧PostM B s G w s' G' w') ra w
section
variable {P:Program} {n:Nat} {Q:HExit→Fr→HS→Prop} {a:Fr} {s:HS} {x y b:Code}
theorem SemM.of (h:SemWp P n x Q a s):SemM P n x Q a s:=
 ⟨fun B G w ra hB hs hd hf=>wp_mono (h.out G w ra hs hf).wp fun e ra' w' ⟨he,a',s',G',q,hr,hf',hp⟩=>⟨he,a',s',G',q,hr,hf',.of hs hd hp⟩⟩
theorem SemM.mono {Q':HExit→Fr→HS→Prop} (h:SemM P n x Q a s) (hq:∀ e a s,Q e a s→Q' e a s):SemM P n x Q' a s:=
 ⟨fun B G w ra hB hs hd hf=>wp_mono (h.out B G w ra hB hs hd hf) fun _ _ _ ⟨he,a',s',G',q,k⟩=>⟨he,a',s',G',hq _ _ _ q,k⟩⟩
theorem SemM.forget {a':Fr} (h:SemM P n x Q a s) (hs:a.Sub a'):SemM P n x Q a' s:=⟨fun B G w ra hB hr hd hf=>h.out B G w ra hB hr hd (hf.sub hs)⟩
theorem SemM.permd {s1:HS} (p:s1.Perm s) (h:SemM P n x Q a s1):SemM P n x Q a s:=
 ⟨fun B G w ra hB hs hd hf=>by
  have hk:∀ r,r∈keys s1↔r∈keys s:=fun r=>(p.map (·.1)).mem_iff
  refine wp_mono (h.out B G w ra hB (hs.permd p.symm) ⟨hd.nodup,fun m hm=>?_⟩ hf) fun e ra' w' ⟨he,a',s',G',q,hr,hf',hp⟩=>⟨he,a',s',G',q,hr,hf',hp.post.permL p,hp.dfs⟩
  obtain ⟨D,h1,h2,h3,h4,r,h5,h6⟩:=hd.out m hm
  exact ⟨D,h1,h2,h3,h4,r,h5,fun hr=>h6 ((hk r).1 hr)⟩⟩
def LiftM (B n:Nat) (s0:HS) (G0:Ghost) (w0:World) (Q:HExit→Fr→HS→Prop):Exit→Act→World→Prop:=
 fun e ra w=>∃ he a s G,Q he a s∧exitRel G he e∧FRel G n a ra∧PostM B s0 G0 w0 s G w
theorem SemM.lift (h:SemM P n x Q a s) {s0:HS} {G0:Ghost} {w0:World} (h0:SRel G0 s0 w0) {B:Nat} {G:Ghost} {w:World} {ra:Act} (hB:B≤w0.heap.size)
  (hp:PostM B s0 G0 w0 s G w) (hf:FRel G n a ra):x.wp P (LiftM B n s0 G0 w0 Q) ra w:=
 wp_mono (h.out B G w ra (Nat.le_trans hB hp.post.ext.size) hp.srel hp.dfs hf) fun _ _ _ ⟨he,a',s',G',hq,hr,hf',hp'⟩=>⟨he,a',s',G',hq,hr,hf',hp.trans h0 hp'⟩
theorem SemM.seq (h:SemM P n x (fun e a s=>match e with|.normal=>SemM P n y Q a s|e=>Q e a s) a s):SemM P n (.seq x y) Q a s:=
 ⟨fun B G w ra hB hs hd hf=>wp_seq (wp_mono (h.out B G w ra hB hs hd hf) fun e ra' w' ⟨he,a',s',G',q,hr,hf',hp⟩=>by
  cases he with
  |normal=>
   cases e<;>first|exact hr.elim|skip
   exact q.lift hs hB hp hf'
  |exit i=>cases e<;>first|exact hr.elim|exact ⟨.exit i,a',s',G',q,hr,hf',hp⟩
  |ret=>cases e<;>first|exact hr.elim|exact ⟨.ret,a',s',G',q,hr,hf',hp⟩
  |pan x=>cases e<;>first|exact hr.elim|exact ⟨.pan x,a',s',G',q,hr,hf',hp⟩)⟩
theorem SemM.cond {t:Operand} {v:Bool} (hb:ev a t=some (.sure,.v (.bool v))) (h:SemM P n (if v then x else y) Q a s):SemM P n (.cond t x y) Q a s:=
 ⟨fun B G w ra hB hs hd hf=>by
  have hb:=rel_v_eq (ev_ok hf hb)
  cases v with
  |true=>exact wp_cond_true hb (h.out B G w ra hB hs hd hf)
  |false=>exact wp_cond_false hb (h.out B G w ra hB hs hd hf)⟩
theorem SemM.block {id:Nat} (h:SemM P n b (hinBlock id Q) a s):SemM P n (.block id b) Q a s:=
 ⟨fun B G w ra hB hs hd hf=>wp_block (wp_mono (h.out B G w ra hB hs hd hf) fun e ra' w' ⟨he,a',s',G',q,hr,hf',hp⟩=>by
  cases he with
  |normal=>cases e<;>first|exact hr.elim|exact ⟨.normal,a',s',G',q,hr,hf',hp⟩
  |exit i=>
   cases e<;>first|exact hr.elim|skip
   have hij:i=_:=hr
   subst hij
   simp only [hinBlock] at q
   simp only [Exit.inBlock]
   split at q
   ·rename_i hb
    rw [if_pos (Nat.eq_of_beq_eq_true hb)]
    exact ⟨.normal,a',s',G',q,trivial,hf',hp⟩
   ·rename_i hb
    rw [if_neg (fun e=>by subst e;simp at hb)]
    exact ⟨.exit i,a',s',G',q,rfl,hf',hp⟩
  |ret=>cases e<;>first|exact hr.elim|exact ⟨.ret,a',s',G',q,hr,hf',hp⟩
  |pan x=>cases e<;>first|exact hr.elim|exact ⟨.pan x,a',s',G',q,hr,hf',hp⟩)⟩
theorem SemM.scope (h:SemM P n b Q a s):SemM P n (.scope b) Q a s:=
 ⟨fun B G w ra hB hs hd hf=>wp_scope_straight (wp_mono (h.out B G w ra hB hs hd hf) fun e ra' w' ⟨he,a',s',G',q,hr,k⟩=>by
  cases e with
  |goto l=>cases he<;>exact hr.elim
  |_=>exact ⟨he,a',s',G',q,hr,k⟩)⟩
theorem wp_loopI {Q:Exit→Act→World→Prop} {c:Code} (I:Nat→Act→World→Prop) (m0:Nat) {a:Act} {w:World} (h0:I m0 a w)
  (round:∀ m a w,I m a w→c.wp P (Exit.then (fun a' w'=>∃ m',m' < m∧I m' a' w') Q) a w):(Code.loop c).wp P Q a w:=by
 intro bf k cs
 have key:∀ j a w,I j a w→∃ e a' w',Q e a' w'∧Arrives P (lone (bf.at a (.code c::.inLoop c::k)) cs w) bf k cs e a' w':=by
  intro j
  induction j using Nat.strongRecOn with
  |_ j ih=>
   intro a w hI
   obtain ⟨e,a₁,w₁,hq,harr⟩:=round j a w hI bf (.inLoop c::k) cs
   cases e with
   |normal=>
    obtain ⟨m',hlt,hI₁⟩:=hq
    obtain ⟨e₂,a₂,w₂,hq₂,harr₂⟩:=ih m' hlt a₁ w₁ hI₁
    exact ⟨e₂,a₂,w₂,hq₂,.of_steps (Steps.trans harr (.one step_inLoop)) harr₂⟩
   |exit id=>exact ⟨_,a₁,w₁,hq,.pass (x:=.inLoop c) rfl (fun _ _=>.inl (by simp)) harr⟩
   |goto l=>exact ⟨_,a₁,w₁,hq,.pass (x:=.inLoop c) rfl (fun _ _=>.inl (by simp)) harr⟩
   |ret=>exact ⟨_,a₁,w₁,hq,.pass (x:=.inLoop c) rfl (fun _ _=>.inl (by simp)) harr⟩
   |panic ch=>exact ⟨_,a₁,w₁,hq,.pass (x:=.inLoop c) rfl (fun _ _=>.inl (by simp)) harr⟩
   |outgrown=>exact ⟨_,a₁,w₁,hq,.pass (x:=.inLoop c) rfl (fun _ _=>.inl (by simp)) harr⟩
 obtain ⟨e,a',w',hq,harr⟩:=key m0 a w h0
 exact ⟨e,a',w',hq,.of_steps (.one step_loop) harr⟩
theorem SemM.loop (I:Nat→Fr→HS→Prop) (m0:Nat) (h0:I m0 a s)
  (round:∀ m a s,I m a s→SemM P n b (fun e a' s'=>match e with|.normal=>∃ m',m' < m∧I m' a' s'|e=>Q e a' s') a s):SemM P n (.loop b) Q a s:=
 ⟨fun B G w ra hB hs hd hf=>by
  refine wp_loopI (fun m ra1 w1=>∃ a1 s1 G1,I m a1 s1∧FRel G1 n a1 ra1∧PostM B s G w s1 G1 w1) m0 ⟨a,s,G,h0,hf,.refl hs hd⟩ ?_
  rintro m ra1 w1 ⟨a1,s1,G1,hI,hf1,hp1⟩
  refine wp_mono ((round m a1 s1 hI).lift hs hB hp1 hf1) fun e ra2 w2 ⟨he,a2,s2,G2,q,hr,hf2,hp2⟩=>?_
  cases he with
  |normal=>
   cases e<;>first|exact hr.elim|skip
   obtain ⟨m',hlt,hI'⟩:=q
   exact ⟨m',hlt,a2,s2,G2,hI',hf2,hp2⟩
  |exit i=>cases e<;>first|exact hr.elim|exact ⟨.exit i,a2,s2,G2,q,hr,hf2,hp2⟩
  |ret=>cases e<;>first|exact hr.elim|exact ⟨.ret,a2,s2,G2,q,hr,hf2,hp2⟩
  |pan x=>cases e<;>first|exact hr.elim|exact ⟨.pan x,a2,s2,G2,q,hr,hf2,hp2⟩⟩
end
theorem fn_enters {c:Cx} {g:FuncId} (hg:c.fn g=true) (A B:Array Value) (w:World):(invoke (.fn (.func g) B) A).run c.P w = .ok (.enter g (A ++ B)) w:=by
 obtain ⟨dn,hdn,hbn,hnn⟩:=c.fn_ok g hg
 have hn':¬ dn.name = "runtime.NumGoroutine":=by simpa using hnn
 have hb':¬ dn.body=none:=by intro e;rw [e] at hbn;cases hbn
 simp [invoke,callFunc,program,Sem.run,hdn,hn',hb']
/-- Behind a loop over a function. -/
def rangeQ (v:Nat) (Q:HExit→Fr→HS→Prop) (a:Fr) (L:LoopR) (s1:HS):Prop:=
 L.busy=false∧match L.pend with
  |none=>Q .normal a s1
  |some .ret=>Q .ret a s1
  |some (.exit id)=>Q (.exit id) a s1
  |_=>False
theorem SemM.range {c:Cx} {n:Nat} {f:Operand} {ps:Array Tmp} {asg bdy:Code} {Q:HExit→Fr→HS→Prop} {a:Fr} {s0:HS} {v g:Nat} {fi ca:List HV} (he:ev a f=some (.sure,.fn (.func g) fi ca)) (hg:c.fn g=true)
  (h:HCalls c.P g (fi ++ [.yld v] ++ ca) ((v,.loop ⟨n,a,ps,asg,bdy,false,none⟩)::s0) fun e st=>∃ x L s1,e = .ret x∧st.Perm ((v,.loop L)::s1)∧rangeQ v Q a L s1) :
  SemM c.P n (.rangeFunc f ps asg bdy) Q a ((v,.void)::s0):=
 ⟨fun B G w ra hB hs hd hf=>by
  refine (wpIn_wide (n:=0)).1 (wpIn_rangeFunc fun fid _=>?_)
  have hfr:frR G n a ra.tmps:=⟨hf.size,hf.slots⟩
  obtain ⟨run1,post1⟩:=loopAs_new (c:=c) hs hfr fid ps asg bdy
  generalize hw1:World.pushed (World.pushed w (.deferred (some []))) (.loop (LoopR.obj ⟨n,a,ps,asg,bdy,false,none⟩ fid ra.tmps w.heap.size))=w1 at *
  obtain ⟨A,C,hAC,h1,h2⟩:=rel_fn (ev_ok hf he)
  have hyl:rel (G.loopAs v w.heap.size) (.yld v) (.func (.yield (w.heap.size+1)) #[] #[]):=rel_leaf (by simp only [relC];exact ⟨w.heap.size+1,by simp [Ghost.loopAs],rfl⟩) rfl
  have le:=loopAs_le hs w.heap.size
  refine ⟨w.heap.size+1,[mark w.heap.size],w1,{ target:=.fn (.func g) C,args:=A ++ #[.func (.yield (w.heap.size+1)) #[] #[]]},w1,g,A ++ #[.func (.yield (w.heap.size+1)) #[] #[]] ++ C,w1,run1,?_,fun f' _=>trivial,fn_enters hg _ _ _,(fun h=>by cases h),?_⟩
  ·have hev:ra.eval f = .func (.func g) A C:=hAC
   simp [resolve,rangeCall,hev,Deferred.ofValue,Sem.run]
   rfl
  ·refine callsIn_wide.2 ((h.out (G.loopAs v w.heap.size) w1 _ post1.srel ?_).mono fun e w3 ⟨hE,s3,G3,⟨x,L,s1,hx,hperm,hb,hQ⟩,hrel,hp3⟩=>?_)
   ·have h1':=relVs.mono le _ _ h1
    have h2':=relVs.mono le _ _ h2
    have:=relVs_append (relVs_append h1' (show relVs (G.loopAs v w.heap.size) [.yld v] [.func (.yield (w.heap.size+1)) #[] #[]] by rw [relVs_cons];exact ⟨_,_,rfl,hyl,by simp [relVs]⟩)) h2'
    simpa using this
   ·subst hx
    cases e<;>first|exact hrel.elim|skip
    have q3:=hp3.permR' hperm
    obtain ⟨D,fid3,tmps3,e3,hbk3,hD3,hKD3,hall⟩:=loop_drop q3.srel
    have hDw:D=w.heap.size:=by
     have:=q3.ext.le.om v (w.heap.size+1) (by simp [Ghost.loopAs])
     rw [e3] at this
     have:=Option.some.inj this
     omega
    subst hDw
    have hst:(L.obj fid3 tmps3 w.heap.size).state≠.busy:=by
     simp only [LoopR.obj,LoopR.st,hb]
     cases L.pend<;>simp
    obtain ⟨q4,hh4⟩:=hall { L.obj fid3 tmps3 w.heap.size with state:=.exhausted}
    have total:=(post1.trans hs q3).trans hs q4
    have edf:G3.on G.df=G3:=by rw [←total.ext.le.df];rfl
    have hvn:v∉keys s1:=by
     have:=q3.srel.keys
     simp only [keys,List.map_cons,List.nodup_cons] at this
     exact this.1
    have hdf:=hd.post hs total
    refine ⟨L.pend,_,run_endLoop hbk3 hst,?_⟩
    have fin:∀ (he:HExit) (e:Exit),exitRel (G3.on (mark w.heap.size::G.df)) he e→Q he a s1→∃ he a' s' G',Q he a' s'∧exitRel G' he e∧FRel G' n a' { ra with defers:=[mark w.heap.size] ++ ra.defers}∧PostM B ((v,.void)::s0) G w s' G' (w3.putObj (w.heap.size+1) (.loop { L.obj fid3 tmps3 w.heap.size with state:=.exhausted})):=by
     intro he e hr hq
     refine ⟨he,a,s1,_,hq,hr,⟨hf.size,by rw [hf.defers];rfl,fun t g x ex=>⟨(hf.slots t g x ex).1,((hf.slots t g x ex).2.mono total.ext.le).mono0 (G3.on_le _)⟩⟩,⟨?_,?_,fun m hm=>?_⟩⟩
     ·show Post _ G w s1 (G3.on G.df) _
      rw [edf];exact total
     ·refine List.nodup_cons.2 ⟨fun hm=>?_,hd.nodup⟩
      obtain ⟨D',g1,g2,g3,_⟩:=hd.out _ hm
      have e1:w.heap.size=D':=by
       simp only [mark,Deferred.mk.injEq,Target.collected.injEq] at g1
       exact g1.1
      have:=(Array.getElem?_eq_some_iff.1 g3).1
      omega
     ·rcases List.mem_cons.1 hm with rfl|hm
      ·exact ⟨w.heap.size,rfl,hB,hh4,hKD3,v,hD3,hvn⟩
      ·exact hdf.out m (by rw [total.ext.le.df];exact hm)
    cases hpd:L.pend with
    |none=>
     rw [hpd] at hQ
     exact fin .normal .normal trivial hQ
    |some cd=>
     rw [hpd] at hQ
     cases cd<;>(first|exact hQ.elim|skip)
     ·rename_i id
      exact wpIn_exit (fin (.exit id) (.exit id) rfl hQ)
     ·exact wpIn_ret (fin .ret .ret trivial hQ)⟩
/-! A function's end. -/
theorem holds.other {G:Ghost} {w w':World} {q:Nat} {y:Res} (h:∀ b,G.role b=some q→w'.heap[b]? = w.heap[b]?) (k:holds G w q y):holds G w' q y:=by
 cases y with
 |cells cs t=>
  obtain ⟨b,vs,e,ro,hh,hc,hK⟩:=k
  exact ⟨b,vs,e,ro,(h b ro).trans hh,hc,hK⟩
 |map es=>
  obtain ⟨b,ents,cl,e,ro,hh,hc⟩:=k
  exact ⟨b,ents,cl,e,ro,(h b ro).trans hh,hc⟩
 |tok n=>
  obtain ⟨tp,e,hn,hq⟩:=k
  refine ⟨tp,e,hn,fun hlt=>?_⟩
  obtain ⟨ro,vs,t,hh,hce,hK⟩:=hq hlt
  exact ⟨ro,vs,t,(h _ ro).trans hh,hce,hK⟩
 |void=>exact k
 |loop L=>
  obtain ⟨b,D,fid,tmps,bD,e,ro,hh,hc,hD,hd,hK,hK'⟩:=k
  exact ⟨b,D,fid,tmps,bD,e,ro,(h b ro).trans hh,hc,hD,(h D hD).trans hd,hK,hK'⟩
 |row cs sz t=>
  obtain ⟨b,c,vs,e,e',ro,hh,q1,q2,hc,hK⟩:=k
  exact ⟨b,c,vs,e,e',ro,(h b ro).trans hh,q1,q2,hc,hK⟩
theorem Post.shut {s s':HS} {G H:Ghost} {w w':World} (k:Post s G w s' H w') {D r:Nat} (o:Obj) (hD:w.heap.size≤D) (hr:H.role D=some r) (hn:r∉keys s') (hK:∀ o,H.K D o=none):Post s G w s' H (w'.putObj D o):=by
 refine ⟨⟨fun b' off v hv=>?_,k.srel.keys,fun q y hy=>(k.srel.holds q y hy).other fun b hb=>?_,k.srel.fresh,fun b' q e=>by rw [World.putObj_size];exact k.srel.role b' q e⟩,⟨k.ext.le,by rw [World.putObj_size];exact k.ext.size,fun b hb hq=>?_,k.ext.tops,k.ext.lim,k.ext.os,k.ext.tape,k.ext.output,k.ext.voids⟩,k.names⟩
 ·have hne:b'≠D:=fun e=>by rw [e,hK] at hv;cases hv
  have:=k.srel.kw b' off v hv
  simp only [World.cell?] at this ⊢
  rw [World.putObj_heap_other hne];exact this
 ·refine World.putObj_heap_other fun e=>?_
  subst e
  rw [hr] at hb
  cases hb
  exact hn (List.mem_map.2 ⟨_,hy,rfl⟩)
 ·obtain ⟨h1,h2,h3⟩:=k.ext.blocks b hb hq
  exact ⟨(World.putObj_heap_other (by omega)).trans h1,h2,h3⟩
theorem leavesM {P:Program} {fn:Func} {tmps:Array Value} {R:Ending→World→Prop} {s s':HS} {G:Ghost} {w:World} {u:FrameMode} (hu:u≠.run):∀ (ds:List Deferred) (G':Ghost) (w':World),G'.df=ds→PostM w.heap.size s G w s' G' w'→
  (∀ w'',Post s G w s' (G'.on G.df) w''→LeavesIn Fence.wide 0 P fn tmps R [] u w'')→LeavesInM Fence.wide 0 P fn tmps R ds u w'
 |[],G',w',_,hp,k=>k w' hp.post
 |d::ds,G',w',e,hp,k=>by
  obtain ⟨D,h1,h2,h3,h4,r,h5,h6⟩:=hp.dfs.out d (by rw [e];exact List.mem_cons_self)
  refine ⟨hu,.inl ⟨D,_,by rw [h1];rfl,run_takeDeferred h3,?_⟩⟩
  have hnd:=hp.dfs.nodup
  rw [e] at hnd
  obtain ⟨n1,n2⟩:=List.nodup_cons.1 hnd
  refine leavesM hu ds (G'.on ds) _ rfl ⟨hp.post.shut _ h2 h5 h6 h4,n2,fun m hm=>?_⟩ k
  obtain ⟨D',g1,g2,g3,g4,r',g5,g6⟩:=hp.dfs.out m (by rw [e];exact List.mem_cons_of_mem _ hm)
  refine ⟨D',g1,g2,(World.putObj_heap_other fun eD=>?_).trans g3,g4,r',g5,g6⟩
  subst eD
  exact n1 (by rw [h1,←g1];exact hm)
theorem sem_callsM (c:Cx) {f:FuncId} {fn:Func} {code:Code} {args:List HV} {a:Fr} {s:HS} {R:HEnd→HS→Prop} (hf:c.P.funcs[f]? = some fn) (hb:fn.body=some code) (hn:Nat.ble args.length fn.ntmps=true) (ha:initFr args 0=a)
  (h:SemM c.P fn.ntmps code (BodyR c fn.results.toList R) a s):HCalls c.P f args s R:=
 HCalls.of_df fun G w vs hdf hs hargs=>by
  subst ha
  have hl:=relVs_length hargs
  have hn:=Nat.le_of_ble_eq_true hn
  have hsz:vs.size=args.length:=by simpa using hl
  refine (callsIn_wide (n:=0)).1 (callsIn_of_wp_marks (F:=Fence.wide) (n:=0) hf hb trivial (wpIn_wide.2 (wp_mono (h.out w.heap.size G w _ (Nat.le_refl _) hs ⟨by rw [hdf];exact .nil,fun m hm=>by rw [hdf] at hm;cases hm⟩ ⟨by simp;omega,hdf.symm,fun t g x e=>?_⟩) fun e ra' w' ⟨he,a',s',G',q,hr,hf',hp⟩=>?_)) rfl)
  ·obtain ⟨rfl,i,rfl,hx⟩:=initFr_get args 0 t g x e
   obtain ⟨u,hu,hr⟩:=relVs_get hargs i x hx
   have hi:i < args.length:=(List.getElem?_eq_some_iff.1 hx).1
   refine ⟨by omega,?_⟩
   have:(vs ++ Array.replicate (fn.ntmps - vs.size) undef).getD (0+i) undef=u:=by
    rw [Nat.zero_add,Array.getD_eq_getD_getElem?,Array.getElem?_append_left (by omega)]
    have:vs[i]? = some u:=by simpa using hu
    rw [this];rfl
   rw [this]
   exact hr
  ·have fin:ResQ c fn.results.toList R a' s'→LeavesInM Fence.wide 0 c.P fn ra'.tmps (fun e w'=>∃ he s' G',R he s'∧endRel G' he e∧Post s G w s' G' w') ra'.defers .returning w':=by
    intro hm
    rw [hf'.defers]
    refine leavesM (by simp) _ G' w' rfl hp fun w'' hp''=>?_
    obtain ⟨v,hv,he,hR,hend⟩:=resQ_ok hp''.srel (hf'.df G.df) hm
    exact ⟨v,hv,he,s',_,hR,hend,hp''⟩
   have q:=q.out
   cases he with
   |normal=>cases e<;>first|exact hr.elim|exact fin q
   |ret=>cases e<;>first|exact hr.elim|exact fin q
   |exit i=>exact q.elim
   |pan x=>
    cases e<;>first|exact hr.elim|skip
    show LeavesInM _ _ _ _ _ _ ra'.defers _ w'
    rw [hf'.defers]
    exact leavesM (by simp) _ G' w' rfl hp fun w'' hp''=>⟨.pan x,s',_,q,(show endRel (G'.on G.df) (.pan x) _ from by obtain ⟨u,e1,e2⟩:=hr;exact ⟨u,e1,e2.mono0 (G'.on_le _)⟩),hp''⟩
end Go.Proofs.Hk

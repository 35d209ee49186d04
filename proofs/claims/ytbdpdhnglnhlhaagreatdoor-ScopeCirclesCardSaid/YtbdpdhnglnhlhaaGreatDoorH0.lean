import Derived.Calls
import Derived.OrdersIn
import Derived.RangeFuncRecord
import Derived.Scope
import Derived.Laws.StructEq
import Derived.Laws.Sem
import Derived.Laws.Cells
import Derived.Laws.Entries
import Derived.ChangeKeysEq
import Derived.Laws.Cover3
import Derived.Laws.CopyRow
import Derived.Laws.AppendOwn
set_option linter.unusedSimpArgs false
set_option linter.unusedVariables false
namespace Go.Proofs.Hk
open Go
/-- Who may append to a slice: nobody; whoever (its capacity is its length); the owner of token i, the slice beginning at the token's place st. -/
inductive Tok where
 |no
 |full
 |own (i st:Nat)
/-- Values by content: slices as lists. -/
inductive HV where
 |v (x:Value)
 |agg (l:List HV)
 |tup (l:List HV)
 |list (t:Tok) (sz:Nat) (l:List HV)
 |ptr (r off:Nat)
 |cptr (x:HV)
 |fn (f:Fn) (first caps:List HV)
 |map (r:Nat)
 |arr (r off len cap sz:Nat)
 |iface (t:TypeId) (x:HV)
 |yld (r:Nat)
 |row (r n sz:Nat)
instance:Inhabited HV:=⟨.v (.bool false)⟩
structure Top where
 n:Nat
 b:Nat
 e:Nat
 ce:Nat
/-- What is known of memory: cells that never change any more; the blocks of names; the ends of rows that grow; whose a block is. -/
structure Ghost where
 K:Nat→Nat→Option Value
 om:Nat→Option Nat
 top:Nat→Option Top
 role:Nat→Option Nat
 lim:Nat
 df:List Deferred:=[]
/-- What is told stays true. -/
structure Ghost.Le0 (G G':Ghost):Prop where
 K:∀ b o v,G.K b o=some v→G'.K b o=some v
 om:∀ r b,G.om r=some b→G'.om r=some b
 top:∀ r t,G.top r=some t→∃ t',G'.top r=some t'∧t.n≤t'.n∧(t'.n=t.n→t'=t)
structure Ghost.Le (G G':Ghost):Prop where
 K:∀ b o v,G.K b o=some v→G'.K b o=some v
 om:∀ r b,G.om r=some b→G'.om r=some b
 top:∀ r t,G.top r=some t→∃ t',G'.top r=some t'∧t.n≤t'.n∧(t'.n=t.n→t'=t)
 df:G'.df=G.df
theorem Ghost.Le.to0 {G G':Ghost} (h:G.Le G'):G.Le0 G':=⟨h.K,h.om,h.top⟩
theorem Ghost.Le.refl (G:Ghost):G.Le G:=⟨fun _ _ _ h=>h,fun _ _ h=>h,fun _ t h=>⟨t,h,Nat.le_refl _,fun _=>rfl⟩,rfl⟩
theorem Ghost.Le.trans {G G1 G2:Ghost} (h:G.Le G1) (k:G1.Le G2):G.Le G2:=
 ⟨fun b o v e=>k.K b o v (h.K b o v e),fun r b e=>k.om r b (h.om r b e),fun r t e=>by
  obtain ⟨t1,e1,n1,q1⟩:=h.top r t e
  obtain ⟨t2,e2,n2,q2⟩:=k.top r t1 e1
  exact ⟨t2,e2,Nat.le_trans n1 n2,fun q=>by
   have h1:t1.n=t.n:=by omega
   have h2:t2=t1:=q2 (by omega)
   rw [h2,q1 h1]⟩,k.df.trans h.df⟩
def tokRel (G:Ghost) (t:Tok) (sz n b o c:Nat):Prop:=
 match t with
 |.no=>True
 |.full=>c=n
 |.own i st=>∃ tp,G.top i=some tp∧st+n≤tp.n∧(st+n=tp.n→(tp.b=b∧tp.e=o+n * sz∧tp.ce=o+c * sz)∨(tp.e=tp.ce∧c=n))
def tokNil (G:Ghost) (t:Tok):Prop:=
 match t with
 |.own i st=>∃ tp,G.top i=some tp∧st≤tp.n
 |_=>True
inductive Kd3 where
 |one
 |agg
 |tup
def HV.kd:HV→Kd3
 |.agg _=>.agg
 |.tup _=>.tup
 |_=>.one
def vkd:Value→Kd3
 |.agg _=>.agg
 |.tuple _=>.tup
 |_=>.one
mutual
/-- The cells of a value. -/
def relC (G:Ghost):HV→List Value→Prop
 |.v x,cs=>cs=[x]∧vkd x = .one
 |.agg l,cs=>relCs G l cs
 |.tup l,cs=>∃ us:Array Value,cs=[.tuple us]∧relVs G l us.toList
 |.list t sz l,cs=>(l=[]∧cs=[.slice none 0 0]∧tokNil G t)∨
   (∃ b o c,cs=[.slice (some ⟨b,o,none⟩) l.length c]∧l.length≤c∧relAts G l (G.K b) o sz∧tokRel G t sz l.length b o c)∨
   (l=[]∧(∀ i st,t≠.own i st)∧∃ a,cs=[.slice (some a) 0 0])
 |.ptr r off,cs=>∃ b,G.om r=some b∧cs=[.pointer (some ⟨b,off,none⟩)]
 |.cptr x,cs=>∃ b o xs,cs=[.pointer (some ⟨b,o,none⟩)]∧x.kd≠.tup∧(∀ j,j < xs.length→G.K b (o+j)=xs[j]?)∧relC G x xs
 |.fn f fi ca,cs=>∃ a b:Array Value,cs=[.func f a b]∧relVs G fi a.toList∧relVs G ca b.toList
 |.map r,cs=>∃ b,G.om r=some b∧cs=[.map (some b)]
 |.arr r off len cap _,cs=>∃ b,G.om r=some b∧cs=[.slice (some ⟨b,off,none⟩) len cap]
 |.iface t x,cs=>∃ u,cs=[.iface t u]∧x.kd=vkd u∧relC G x u.cells.toList
 |.yld r,cs=>∃ b,G.om r=some b∧cs=[.func (.yield b) #[] #[]]
 |.row r n _,cs=>∃ b c,G.om r=some b∧G.om (r+1)=some c∧n≤c∧cs=[.slice (some ⟨b,0,none⟩) n c]
/-- Leaves, a cell each. -/
def relCs (G:Ghost):List HV→List Value→Prop
 |[],cs=>cs=[]
 |x::xs,cs=>∃ u us,cs=u::us∧(x.kd = .one∧relC G x [u])∧relCs G xs us
/-- Values one by one. -/
def relVs (G:Ghost):List HV→List Value→Prop
 |[],us=>us=[]
 |x::xs,us=>∃ u us',us=u::us'∧(x.kd=vkd u∧relC G x u.cells.toList)∧relVs G xs us'
/-- Elements of a row, each of so many cells. -/
def relAts (G:Ghost):List HV→(Nat→Option Value)→Nat→Nat→Prop
 |[],_,_,_=>True
 |x::xs,rd,o,sz=>(∃ cs,cs.length=sz∧x.kd≠.tup∧(∀ j,j < sz→rd (o+j)=cs[j]?)∧relC G x cs)∧relAts G xs rd (o+sz) sz
end
def rel (G:Ghost) (x:HV) (u:Value):Prop:=x.kd=vkd u∧relC G x u.cells.toList
theorem relVs_cons (G:Ghost) (x:HV) (xs:List HV) (us:List Value):relVs G (x::xs) us = ∃ u us',us=u::us'∧rel G x u∧relVs G xs us':=by
 simp only [relVs,rel]
theorem tokRel.mono0 {G G':Ghost} (hG:G.Le0 G') {t:Tok} {sz n b o c:Nat} (h:tokRel G t sz n b o c):tokRel G' t sz n b o c:=by
 cases t with
 |no=>trivial
 |full=>exact h
 |own i st=>
  obtain ⟨tp,e,hle,hq⟩:=h
  obtain ⟨t',e',hn,hq'⟩:=hG.top i tp e
  refine ⟨t',e',by omega,fun q=>?_⟩
  have:t'=tp:=hq' (by omega)
  subst this
  exact hq q
theorem tokNil.mono0 {G G':Ghost} (hG:G.Le0 G') {t:Tok} (h:tokNil G t):tokNil G' t:=by
 cases t with
 |no=>trivial
 |full=>trivial
 |own i st=>
  obtain ⟨tp,e,hle⟩:=h
  obtain ⟨t',e',hn,_⟩:=hG.top i tp e
  exact ⟨t',e',by omega⟩
mutual
theorem relC.mono0 {G G':Ghost} (hG:G.Le0 G'):∀ (x:HV) (cs:List Value),relC G x cs→relC G' x cs
 |.v x,cs,h=>by simpa only [relC] using h
 |.agg l,cs,h=>by simp only [relC] at h ⊢;exact relCs.mono0 hG l cs h
 |.tup l,cs,h=>by
  simp only [relC] at h ⊢
  obtain ⟨us,e,h⟩:=h
  exact ⟨us,e,relVs.mono0 hG l _ h⟩
 |.list t sz l,cs,h=>by
  simp only [relC] at h ⊢
  rcases h with ⟨e,e',h⟩|⟨b,o,c,e,hc,h,ht⟩|h
  ·exact .inl ⟨e,e',h.mono0 hG⟩
  ·exact .inr (.inl ⟨b,o,c,e,hc,relAts.mono0 hG l _ _ (hG.K b) _ _ h,ht.mono0 hG⟩)
  ·exact .inr (.inr h)
 |.ptr r off,cs,h=>by
  simp only [relC] at h ⊢
  obtain ⟨b,e,h⟩:=h
  exact ⟨b,hG.om r b e,h⟩
 |.cptr x,cs,h=>by
  simp only [relC] at h ⊢
  obtain ⟨b,o,xs,e,hk,hx,h⟩:=h
  refine ⟨b,o,xs,e,hk,fun j hj=>?_,relC.mono0 hG x xs h⟩
  have:=hx j hj
  rw [List.getElem?_eq_getElem hj] at this ⊢
  exact hG.K _ _ _ this
 |.fn f fi ca,cs,h=>by
  simp only [relC] at h ⊢
  obtain ⟨a,b,e,h1,h2⟩:=h
  exact ⟨a,b,e,relVs.mono0 hG fi _ h1,relVs.mono0 hG ca _ h2⟩
 |.map r,cs,h=>by
  simp only [relC] at h ⊢
  obtain ⟨b,e,h⟩:=h
  exact ⟨b,hG.om r b e,h⟩
 |.arr r off len cap sz,cs,h=>by
  simp only [relC] at h ⊢
  obtain ⟨b,e,h⟩:=h
  exact ⟨b,hG.om r b e,h⟩
 |.iface t x,cs,h=>by
  simp only [relC] at h ⊢
  obtain ⟨u,e,ha,h⟩:=h
  exact ⟨u,e,ha,relC.mono0 hG x _ h⟩
 |.yld r,cs,h=>by
  simp only [relC] at h ⊢
  obtain ⟨b,e,h⟩:=h
  exact ⟨b,hG.om r b e,h⟩
 |.row r n sz,cs,h=>by
  simp only [relC] at h ⊢
  obtain ⟨b,c,e,e',h⟩:=h
  exact ⟨b,c,hG.om r b e,hG.om _ c e',h⟩
theorem relCs.mono0 {G G':Ghost} (hG:G.Le0 G'):∀ (l:List HV) (cs:List Value),relCs G l cs→relCs G' l cs
 |[],cs,h=>by simpa only [relCs] using h
 |x::xs,cs,h=>by
  simp only [relCs] at h ⊢
  obtain ⟨u,us,e,⟨h0,h1⟩,h2⟩:=h
  exact ⟨u,us,e,⟨h0,relC.mono0 hG x _ h1⟩,relCs.mono0 hG xs _ h2⟩
theorem relVs.mono0 {G G':Ghost} (hG:G.Le0 G'):∀ (l:List HV) (us:List Value),relVs G l us→relVs G' l us
 |[],us,h=>by simpa only [relVs] using h
 |x::xs,us,h=>by
  simp only [relVs] at h ⊢
  obtain ⟨u,us',e,⟨h0,h1⟩,h2⟩:=h
  exact ⟨u,us',e,⟨h0,relC.mono0 hG x _ h1⟩,relVs.mono0 hG xs _ h2⟩
theorem relAts.mono0 {G G':Ghost} (hG:G.Le0 G'):∀ (l:List HV) (rd rd':Nat→Option Value) (_:∀ o v,rd o=some v→rd' o=some v) (o sz:Nat),relAts G l rd o sz→relAts G' l rd' o sz
 |[],_,_,_,_,_,_=>by simp only [relAts]
 |x::xs,rd,rd',hr,o,sz,h=>by
  simp only [relAts] at h ⊢
  obtain ⟨⟨cs,hs,hk,hx,h1⟩,h2⟩:=h
  refine ⟨⟨cs,hs,hk,fun j hj=>?_,relC.mono0 hG x _ h1⟩,relAts.mono0 hG xs rd rd' hr _ _ h2⟩
  have:=hx j hj
  rw [List.getElem?_eq_getElem (by omega)] at this ⊢
  exact hr _ _ this
end
theorem rel.mono0 {G G':Ghost} (hG:G.Le0 G') {x:HV} {u:Value} (h:rel G x u):rel G' x u:=⟨h.1,relC.mono0 hG _ _ h.2⟩
theorem tokRel.mono {G G':Ghost} (hG:G.Le G') {t:Tok} {sz n b o c:Nat} (h:tokRel G t sz n b o c):tokRel G' t sz n b o c:=h.mono0 hG.to0
theorem tokNil.mono {G G':Ghost} (hG:G.Le G') {t:Tok} (h:tokNil G t):tokNil G' t:=h.mono0 hG.to0
theorem relC.mono {G G':Ghost} (hG:G.Le G') (x:HV) (cs:List Value) (h:relC G x cs):relC G' x cs:=relC.mono0 hG.to0 x cs h
theorem relCs.mono {G G':Ghost} (hG:G.Le G') (l:List HV) (cs:List Value) (h:relCs G l cs):relCs G' l cs:=relCs.mono0 hG.to0 l cs h
theorem relVs.mono {G G':Ghost} (hG:G.Le G') (l:List HV) (us:List Value) (h:relVs G l us):relVs G' l us:=relVs.mono0 hG.to0 l us h
theorem relAts.mono {G G':Ghost} (hG:G.Le G') (l:List HV) (rd rd':Nat→Option Value) (hr:∀ o v,rd o=some v→rd' o=some v) (o sz:Nat) (h:relAts G l rd o sz):relAts G' l rd' o sz:=relAts.mono0 hG.to0 l rd rd' hr o sz h
theorem rel.mono {G G':Ghost} (hG:G.Le G') {x:HV} {u:Value} (h:rel G x u):rel G' x u:=h.mono0 hG.to0
/-- The calls that are put off are another frame's. -/
def Ghost.on (G:Ghost) (D:List Deferred):Ghost:={ G with df:=D}
theorem Ghost.on_le (G:Ghost) (D:List Deferred):G.Le0 (G.on D):=⟨fun _ _ _ h=>h,fun _ _ h=>h,fun _ t h=>⟨t,h,Nat.le_refl _,fun _=>rfl⟩⟩
theorem Ghost.le_on (G:Ghost) (D:List Deferred):(G.on D).Le0 G:=⟨fun _ _ _ h=>h,fun _ _ h=>h,fun _ t h=>⟨t,h,Nat.le_refl _,fun _=>rfl⟩⟩
end Go.Proofs.Hk

namespace Go.Proofs.Hk
open Go
/-! Frames. -/
inductive Tag where
 |sure
 |cond (b:Bool)
abbrev Fr:=List (Nat × Tag × HV)
def Fr.get:Fr→Nat→Option (Tag × HV)
 |[],_=>none
 |(t,g,x)::a,u=>match Nat.beq t u with
  |true=>some (g,x)
  |false=>Fr.get a u
def tagRel (G:Ghost) (g:Tag) (x:HV) (u:Value):Prop:=
 match g with
 |.sure=>rel G x u
 |.cond b=>(b=true→rel G x u)∧(b=false→u=undef)
theorem tagRel.mono0 {G G':Ghost} (hG:G.Le0 G') {g:Tag} {x:HV} {u:Value} (h:tagRel G g x u):tagRel G' g x u:=by
 cases g with
 |sure=>exact rel.mono0 hG h
 |cond b=>exact ⟨fun e=>(h.1 e).mono0 hG,h.2⟩
/-- Temporaries as a frame tells them. -/
def frR (G:Ghost) (n:Nat) (a:Fr) (tmps:Array Value):Prop:=tmps.size=n∧∀ t g x,a.get t=some (g,x)→t < n∧tagRel G g x (tmps.getD t undef)
theorem frR.mono0 {G G':Ghost} (hG:G.Le0 G') {n:Nat} {a:Fr} {tmps:Array Value} (h:frR G n a tmps):frR G' n a tmps:=⟨h.1,fun t g x e=>⟨(h.2 t g x e).1,(h.2 t g x e).2.mono0 hG⟩⟩
/-- A loop over a function: the frame ahead of it, what is done with each, whether a round is under way, how it was left. -/
structure LoopR where
 n:Nat
 a:Fr
 ps:Array Tmp
 asg:Code
 bdy:Code
 busy:Bool
 pend:Option Code
def LoopR.st (L:LoopR):LoopState:=if L.busy then .busy else if L.pend.isNone then .ready else .done
def LoopR.obj (L:LoopR) (fid:FuncId) (tmps:Array Value) (D:Nat):Loop:={ state:=L.st,pending:=L.pend,fn:=fid,tmps:=tmps,params:=L.ps,assign:=L.asg,body:=L.bdy,defers:=D}
inductive Res where
 |cells (cs:List HV) (t:TypeId)
 |map (es:List (Value × HV))
 |tok (n:Nat)
 |void
 |loop (L:LoopR)
 |row (cs:List HV) (sz:Nat) (t:TypeId)
abbrev HS:=List (Nat × Res)
def keys (s:HS):List Nat:=s.map (·.1)
def relMap (G:Ghost):List (Value × HV)→List MapEntry→Prop
 |[],es=>es=[]
 |(k,x)::l,es=>∃ e es',es=e::es'∧e.key=k∧rel G x e.val∧relMap G l es'
theorem relMap.mono0 {G G':Ghost} (hG:G.Le0 G'):∀ (l:List (Value × HV)) (es:List MapEntry),relMap G l es→relMap G' l es
 |[],_,h=>h
 |(_,x)::l,_,⟨e,es',h,hk,hx,hl⟩=>⟨e,es',h,hk,hx.mono0 hG,relMap.mono0 hG l es' hl⟩
theorem relMap.mono {G G':Ghost} (hG:G.Le G') (l:List (Value × HV)) (es:List MapEntry) (h:relMap G l es):relMap G' l es:=relMap.mono0 hG.to0 l es h
def holds (G:Ghost) (w:World) (r:Nat):Res→Prop
 |.cells cs t=>∃ b vs,G.om r=some b∧G.role b=some r∧w.heap[b]? = some (.cells vs t (0,0))∧relCs G cs vs.toList∧∀ o,G.K b o=none
 |.map es=>∃ b ents clock,G.om r=some b∧G.role b=some r∧w.heap[b]? = some (.map ents clock)∧relMap G es ents.toList
 |.tok n=>∃ tp,G.top r=some tp∧tp.n=n∧(tp.e < tp.ce→G.role tp.b=some r∧∃ vs t,w.heap[tp.b]? = some (.cells vs t (0,0))∧tp.ce≤vs.size∧∀ o,tp.e≤o→G.K tp.b o=none)
 |.void=>r < G.lim∧G.om r=none∧G.top r=none∧∀ b,G.role b≠some r
 |.loop L=>∃ b D fid tmps,b=D+1∧G.om r=some b∧G.role b=some r∧w.heap[b]? = some (.loop (L.obj fid tmps D))∧frR G L.n L.a tmps∧G.role D=some r∧w.heap[D]? = some (.deferred (some []))∧(∀ o,G.K b o=none)∧∀ o,G.K D o=none
 |.row cs sz t=>∃ b c vs,G.om r=some b∧G.om (r+1)=some c∧G.role b=some r∧w.heap[b]? = some (.cells vs t (0,0))∧c * sz≤vs.size∧cs.length≤vs.size∧relCs G cs (vs.toList.take cs.length)∧∀ o,G.K b o=none
structure SRel (G:Ghost) (s:HS) (w:World):Prop where
 kw:∀ b o v,G.K b o=some v→w.cell? ⟨b,o,none⟩=some v
 keys:(keys s).Nodup
 holds:∀ r x,(r,x)∈s→holds G w r x
 fresh:∀ r,G.lim≤r→G.om r=none∧G.top r=none
 role:∀ b r,G.role b=some r→b < w.heap.size∧r < G.lim
structure Ext (s:HS) (G:Ghost) (w:World) (G':Ghost) (w':World):Prop where
 le:G.Le G'
 size:w.heap.size≤w'.heap.size
 blocks:∀ b,b < w.heap.size→(∀ r,G.role b=some r→r∉keys s)→w'.heap[b]? = w.heap[b]?∧G'.role b=G.role b∧∀ o,G'.K b o=G.K b o
 tops:∀ r tp,G.top r=some tp→r∉keys s→G'.top r=some tp
 lim:G.lim≤G'.lim
 os:w'.os=w.os
 tape:w'.tape=w.tape
 output:w'.output=w.output
 voids:∀ r,r < G.lim→r∉keys s→G.om r=none→G.top r=none→(∀ b,G.role b≠some r)→G'.om r=none∧G'.top r=none∧∀ b,G'.role b≠some r
/-- From one state to another. -/
structure Post (s:HS) (G:Ghost) (w:World) (s':HS) (G':Ghost) (w':World):Prop where
 srel:SRel G' s' w'
 ext:Ext s G w G' w'
 names:∀ r,r∈keys s'→r∈keys s∨G.lim≤r
theorem Ext.refl (s:HS) (G:Ghost) (w:World):Ext s G w G w:=⟨.refl G,Nat.le_refl _,fun _ _ _=>⟨rfl,rfl,fun _=>rfl⟩,fun _ _ h _=>h,Nat.le_refl _,rfl,rfl,rfl,fun _ _ _ h1 h2 h3=>⟨h1,h2,h3⟩⟩
theorem Post.refl {s:HS} {G:Ghost} {w:World} (h:SRel G s w):Post s G w s G w:=⟨h,.refl s G w,fun _ h=>.inl h⟩
theorem SRel.lt_top {G:Ghost} {s:HS} {w:World} (h:SRel G s w) {r:Nat} {t:Top} (e:G.top r=some t):r < G.lim:=by
 rcases Nat.lt_or_ge r G.lim with hl|hl
 ·exact hl
 ·rw [(h.fresh r hl).2] at e;cases e
theorem SRel.lt_om {G:Ghost} {s:HS} {w:World} (h:SRel G s w) {r b:Nat} (e:G.om r=some b):r < G.lim:=by
 rcases Nat.lt_or_ge r G.lim with hl|hl
 ·exact hl
 ·rw [(h.fresh r hl).1] at e;cases e
theorem SRel.lt_key {G:Ghost} {s:HS} {w:World} (h:SRel G s w) {r:Nat} (hr:r∈Hk.keys s):r < G.lim:=by
 obtain ⟨⟨r',x⟩,hx,rfl⟩:=List.mem_map.1 hr
 have:=h.holds r' x hx
 cases x with
 |cells cs t=>obtain ⟨b,vs,e,_⟩:=this;exact h.lt_om e
 |map es=>obtain ⟨b,_,_,e,_⟩:=this;exact h.lt_om e
 |tok n=>obtain ⟨tp,e,_⟩:=this;exact h.lt_top e
 |void=>exact this.1
 |loop L=>obtain ⟨b,D,fid,tmps,_,e,_⟩:=this;exact h.lt_om e
 |row cs sz t=>obtain ⟨b,c,vs,e,_⟩:=this;exact h.lt_om e
theorem Ext.trans {s s1:HS} {G G1 G2:Ghost} {w w1 w2:World} (hs:SRel G s w) (h:Ext s G w G1 w1) (hn:∀ r,r∈keys s1→r∈keys s∨G.lim≤r) (k:Ext s1 G1 w1 G2 w2):Ext s G w G2 w2 where
 le:=h.le.trans k.le
 size:=Nat.le_trans h.size k.size
 blocks:=fun b hb hr=>by
  obtain ⟨h1,h2,h3⟩:=h.blocks b hb hr
  obtain ⟨k1,k2,k3⟩:=k.blocks b (Nat.lt_of_lt_of_le hb h.size) (fun r e hk=>by
   rw [h2] at e
   rcases hn r hk with hk|hk
   ·exact hr r e hk
   ·exact absurd (hs.role b r e).2 (by omega))
  exact ⟨k1.trans h1,k2.trans h2,fun o=>(k3 o).trans (h3 o)⟩
 tops:=fun r tp e hr=>k.tops r tp (h.tops r tp e hr) (fun hk=>by
  rcases hn r hk with hk|hk
  ·exact hr hk
  ·exact absurd (hs.lt_top e) (by omega))
 lim:=Nat.le_trans h.lim k.lim
 os:=k.os.trans h.os
 tape:=k.tape.trans h.tape
 output:=k.output.trans h.output
 voids:=fun r hr hk h1 h2 h3=>by
  obtain ⟨a1,a2,a3⟩:=h.voids r hr hk h1 h2 h3
  exact k.voids r (Nat.lt_of_lt_of_le hr h.lim) (fun hk'=>(hn r hk').elim hk (fun x=>absurd hr (by omega))) a1 a2 a3
theorem Post.trans {s s1 s2:HS} {G G1 G2:Ghost} {w w1 w2:World} (hs:SRel G s w) (h:Post s G w s1 G1 w1) (k:Post s1 G1 w1 s2 G2 w2):Post s G w s2 G2 w2 where
 srel:=k.srel
 ext:=h.ext.trans hs h.names k.ext
 names:=fun r hr=>by
  rcases k.names r hr with hk|hk
  ·exact h.names r hk
  ·exact .inr (Nat.le_trans h.ext.lim hk)
theorem SRel.perm {G:Ghost} {s s':HS} {w:World} (h:SRel G s w) (p:s'.Sublist s):SRel G s' w:=
 ⟨h.kw,h.keys.sublist (p.map _),fun r x hx=>h.holds r x (p.subset hx),h.fresh,h.role⟩
theorem SRel.sub {G:Ghost} {s s':HS} {w:World} (h:SRel G s w) (hk:(Hk.keys s').Nodup) (p:∀ x,x∈s'→x∈s):SRel G s' w:=
 ⟨h.kw,hk,fun r x hx=>h.holds r x (p _ hx),h.fresh,h.role⟩
theorem holds.kept {s:HS} {G G':Ghost} {w w':World} (h:SRel G s w) (hx:Ext s G w G' w') {r:Nat} {x:Res} (hr:r∉keys s) (k:holds G w r x):holds G' w' r x:=by
 cases x with
 |cells cs t=>
  obtain ⟨b,vs,e,ro,hb,hc,hK⟩:=k
  obtain ⟨h1,h2,h3⟩:=hx.blocks b (h.role b r ro).1 (fun r' e'=>by rw [ro] at e';cases e';exact hr)
  exact ⟨b,vs,hx.le.om r b e,h2.trans ro,h1.trans hb,relCs.mono hx.le _ _ hc,fun o=>(h3 o).trans (hK o)⟩
 |map es=>
  obtain ⟨b,ents,cl,e,ro,hb,hc⟩:=k
  obtain ⟨h1,h2,h3⟩:=hx.blocks b (h.role b r ro).1 (fun r' e'=>by rw [ro] at e';cases e';exact hr)
  exact ⟨b,ents,cl,hx.le.om r b e,h2.trans ro,h1.trans hb,relMap.mono hx.le _ _ hc⟩
 |tok n=>
  obtain ⟨tp,e,hn,hq⟩:=k
  refine ⟨tp,hx.tops r tp e hr,hn,fun hlt=>?_⟩
  obtain ⟨ro,vs,t,hb,hce,hK⟩:=hq hlt
  obtain ⟨h1,h2,h3⟩:=hx.blocks tp.b (h.role _ r ro).1 (fun r' e'=>by rw [ro] at e';cases e';exact hr)
  exact ⟨h2.trans ro,vs,t,h1.trans hb,hce,fun o ho=>(h3 o).trans (hK o ho)⟩
 |void=>
  obtain ⟨h0,h1,h2,h3⟩:=k
  obtain ⟨a,b,c⟩:=hx.voids r h0 hr h1 h2 h3
  exact ⟨Nat.lt_of_lt_of_le h0 hx.lim,a,b,c⟩
 |loop L=>
  obtain ⟨b,D,fid,tmps,bD,e,ro,hb,hc,hD,hd,hK,hK'⟩:=k
  obtain ⟨h1,h2,h3⟩:=hx.blocks b (h.role b r ro).1 (fun r' e'=>by rw [ro] at e';cases e';exact hr)
  obtain ⟨g1,g2,g3⟩:=hx.blocks D (h.role D r hD).1 (fun r' e'=>by rw [hD] at e';cases e';exact hr)
  exact ⟨b,D,fid,tmps,bD,hx.le.om r b e,h2.trans ro,h1.trans hb,hc.mono0 hx.le.to0,g2.trans hD,g1.trans hd,fun o=>(h3 o).trans (hK o),fun o=>(g3 o).trans (hK' o)⟩
 |row cs sz t=>
  obtain ⟨b,c,vs,e,e',ro,hb,h1,h2,hc,hK⟩:=k
  obtain ⟨g1,g2,g3⟩:=hx.blocks b (h.role b r ro).1 (fun r' e'=>by rw [ro] at e';cases e';exact hr)
  exact ⟨b,c,vs,hx.le.om r b e,hx.le.om _ c e',g2.trans ro,g1.trans hb,h1,h2,relCs.mono hx.le _ _ hc,fun o=>(g3 o).trans (hK o)⟩
theorem keys_append (s t:HS):keys (s ++ t)=keys s ++ keys t:=by simp [keys]
/-- What is not handed on stays as it is. -/
theorem Post.frame {s t s':HS} {G G':Ghost} {w w':World} (h:SRel G (s ++ t) w) (k:Post s G w s' G' w'):Post (s ++ t) G w (s' ++ t) G' w':=by
 have hs:SRel G s w:=h.perm (List.sublist_append_left s t)
 have hnd:=h.keys
 rw [keys_append,List.nodup_append] at hnd
 obtain ⟨hnd1,hnd2,hnd3⟩:=hnd
 refine ⟨⟨k.srel.kw,?_,fun r x hx=>?_,k.srel.fresh,k.srel.role⟩,?_,fun r hr=>?_⟩
 ·rw [keys_append,List.nodup_append]
  refine ⟨k.srel.keys,hnd2,fun a ha b hb e=>?_⟩
  subst e
  rcases k.names a ha with hk|hk
  ·exact hnd3 a hk a hb rfl
  ·have:=h.lt_key (r:=a) (by rw [keys_append];exact List.mem_append_right _ hb)
   omega
 ·rcases List.mem_append.1 hx with hx|hx
  ·exact k.srel.holds r x hx
  ·have hr:r∉keys s:=fun hr=>hnd3 r hr r (List.mem_map.2 ⟨_,hx,rfl⟩) rfl
   exact (h.holds r x (List.mem_append_right _ hx)).kept hs k.ext hr
 ·exact ⟨k.ext.le,k.ext.size,fun b hb hr=>k.ext.blocks b hb (fun r e hk=>hr r e (by rw [keys_append];exact List.mem_append_left _ hk)),fun r tp e hr=>k.ext.tops r tp e (fun hk=>hr (by rw [keys_append];exact List.mem_append_left _ hk)),k.ext.lim,k.ext.os,k.ext.tape,k.ext.output,fun r hl hk=>k.ext.voids r hl (fun h'=>hk (by rw [keys_append];exact List.mem_append_left _ h'))⟩
 ·rw [keys_append,List.mem_append] at hr ⊢
  rcases hr with hr|hr
  ·exact (k.names r hr).imp .inl id
  ·exact .inl (.inr hr)
theorem holds.congr {G:Ghost} {w w':World} (h:w'.heap=w.heap) {r:Nat} {x:Res} (k:holds G w r x):holds G w' r x:=by
 cases x<;>simpa only [Hk.holds,h] using k
/-- A draw. -/
theorem Post.drawn {s:HS} {G:Ghost} {w w':World} (h:SRel G s w) (hh:w'.heap=w.heap) (ho:w'.os=w.os) (ht:w'.tape=w.tape) (hp:w'.output=w.output):Post s G w s G w':=
 ⟨⟨fun b o v e=>by have:=h.kw b o v e;simpa only [World.cell?,hh] using this,h.keys,fun r x hx=>(h.holds r x hx).congr hh,h.fresh,fun b r e=>by rw [hh];exact h.role b r e⟩,
  ⟨.refl G,by rw [hh];exact Nat.le_refl _,fun b _ _=>⟨by rw [hh],rfl,fun _=>rfl⟩,fun _ _ e _=>e,Nat.le_refl _,ho,ht,hp,fun _ _ _ h1 h2 h3=>⟨h1,h2,h3⟩⟩,fun _ h=>.inl h⟩
theorem holds.on {G:Ghost} {w:World} {r:Nat} {x:Res} (D':List Deferred) (k:holds G w r x):holds (G.on D') w r x:=by
 cases x with
 |cells cs t=>
  obtain ⟨b,vs,e,ro,hb,hc,hK⟩:=k
  exact ⟨b,vs,e,ro,hb,relCs.mono0 (G.on_le D') _ _ hc,hK⟩
 |map es=>
  obtain ⟨b,ents,cl,e,ro,hb,hc⟩:=k
  exact ⟨b,ents,cl,e,ro,hb,relMap.mono0 (G.on_le D') _ _ hc⟩
 |tok n=>exact k
 |void=>exact k
 |loop L=>
  obtain ⟨b,D,fid,tmps,bD,e,ro,hb,hc,hD,hd,hK,hK'⟩:=k
  exact ⟨b,D,fid,tmps,bD,e,ro,hb,hc.mono0 (G.on_le D'),hD,hd,hK,hK'⟩
 |row cs sz t=>
  obtain ⟨b,c,vs,e,e',ro,hb,h1,h2,hc,hK⟩:=k
  exact ⟨b,c,vs,e,e',ro,hb,h1,h2,relCs.mono0 (G.on_le D') _ _ hc,hK⟩
theorem SRel.on {G:Ghost} {s:HS} {w:World} (h:SRel G s w) (D:List Deferred):SRel (G.on D) s w:=
 ⟨h.kw,h.keys,fun r x hx=>(h.holds r x hx).on D,h.fresh,h.role⟩
/-- What a callee does, seen by its caller. -/
theorem Post.on {s s':HS} {G G':Ghost} {w w':World} {D:List Deferred} (k:Post s (G.on D) w s' G' w'):Post s G w s' (G'.on G.df) w':=
 ⟨k.srel.on G.df,⟨⟨k.ext.le.K,k.ext.le.om,k.ext.le.top,rfl⟩,k.ext.size,k.ext.blocks,k.ext.tops,k.ext.lim,k.ext.os,k.ext.tape,k.ext.output,k.ext.voids⟩,k.names⟩
/-! Calls. -/
inductive HEnd where
 |ret (x:HV)
 |pan (x:HV)
def endRel (G:Ghost):HEnd→Ending→Prop
 |.ret x,.returned u=>rel G x u
 |.pan x,.panicked ch=>∃ u,ch=[{ v:=u,recovered:=false}]∧rel G x u
 |_,_=>False
theorem endRel.on {G:Ghost} {he:HEnd} {e:Ending} (D:List Deferred) (h:endRel G he e):endRel (G.on D) he e:=by
 cases he<;>cases e<;>first|exact h.elim|exact h.mono0 (G.on_le D)|(obtain ⟨u,e,hr⟩:=h;exact ⟨u,e,hr.mono0 (G.on_le D)⟩)
structure HCalls (P:Program) (f:FuncId) (args:List HV) (s:HS) (R:HEnd→HS→Prop):Prop where
 out:∀ G w vs,SRel G s w→relVs G args vs.toList→Calls P f vs w fun e w'=>∃ he s' G',R he s'∧endRel G' he e∧Post s G w s' G' w'
theorem HCalls.of_df {P:Program} {f:FuncId} {args:List HV} {s:HS} {R:HEnd→HS→Prop} (h:∀ G w vs,G.df=[]→SRel G s w→relVs G args vs.toList→Calls P f vs w fun e w'=>∃ he s' G',R he s'∧endRel G' he e∧Post s G w s' G' w'):HCalls P f args s R:=
 ⟨fun G w vs hs ha=>(h (G.on []) w vs rfl (hs.on []) (relVs.mono0 (G.on_le []) _ _ ha)).mono fun _ _ ⟨he,s',G',hR,hr,hp⟩=>⟨he,s',G'.on G.df,hR,hr.on _,hp.on⟩⟩
theorem HCalls.mono {P:Program} {f:FuncId} {args:List HV} {s:HS} {R R':HEnd→HS→Prop} (h:HCalls P f args s R) (hr:∀ e s',R e s'→R' e s'):HCalls P f args s R':=
 ⟨fun G w vs hs ha=>(h.out G w vs hs ha).mono fun _ _ ⟨he,s',G',hR,k⟩=>⟨he,s',G',hr _ _ hR,k⟩⟩
theorem Post.sub {s s1 s':HS} {G G':Ghost} {w w':World} (k:Post s G w s1 G' w') (hk:(keys s').Nodup) (p:∀ x,x∈s'→x∈s1):Post s G w s' G' w':=
 ⟨k.srel.sub hk p,k.ext,fun r hr=>by
  obtain ⟨y,hy,rfl⟩:=List.mem_map.1 hr
  exact k.names _ (List.mem_map.2 ⟨y,p y hy,rfl⟩)⟩
theorem Post.permL {s s0 s':HS} {G G':Ghost} {w w':World} (p:s.Perm s0) (k:Post s G w s' G' w'):Post s0 G w s' G' w':=by
 have hm:∀ r,r∈keys s↔r∈keys s0:=fun r=>(p.map _).mem_iff
 exact ⟨k.srel,⟨k.ext.le,k.ext.size,fun b hb hr=>k.ext.blocks b hb (fun r e h=>hr r e ((hm r).1 h)),fun r tp e hr=>k.ext.tops r tp e (fun h=>hr ((hm r).1 h)),k.ext.lim,k.ext.os,k.ext.tape,k.ext.output,fun r hl hk=>k.ext.voids r hl (fun h'=>hk ((hm r).1 h'))⟩,fun r hr=>(k.names r hr).imp (hm r).1 id⟩
/-- The frame rule. -/
theorem HCalls.frame {P:Program} {f:FuncId} {args:List HV} {s:HS} {R:HEnd→HS→Prop} (h:HCalls P f args s R) (t:HS):HCalls P f args (s ++ t) (fun e s'=>∃ s1,s'=s1 ++ t∧R e s1):=
 ⟨fun G w vs hs ha=>(h.out G w vs (hs.perm (List.sublist_append_left s t)) ha).mono fun _ _ ⟨he,s',G',hR,k,kp⟩=>⟨he,s' ++ t,G',⟨s',rfl,hR⟩,k,kp.frame hs⟩⟩
theorem SRel.permd {G:Ghost} {s s':HS} {w:World} (h:SRel G s w) (p:s.Perm s'):SRel G s' w:=
 h.sub (((p.map _).nodup_iff).1 h.keys) fun _ hx=>p.mem_iff.2 hx
theorem HCalls.perm {P:Program} {f:FuncId} {args:List HV} {s s0:HS} {R:HEnd→HS→Prop} (p:s.Perm s0) (h:HCalls P f args s R):HCalls P f args s0 R:=
 ⟨fun G w vs hs ha=>(h.out G w vs (hs.permd p.symm) ha).mono fun _ _ ⟨he,s',G',hR,k,kp⟩=>⟨he,s',G',hR,k,kp.permL p⟩⟩
/-- At the call: part of the state is handed on. -/
theorem HCalls.use {P:Program} {f:FuncId} {args:List HV} {s t s0:HS} {R:HEnd→HS→Prop} {R':HEnd→HS→Prop} (h:HCalls P f args s R) (p:(s ++ t).Perm s0) (hr:∀ e s1,R e s1→R' e (s1 ++ t)):HCalls P f args s0 R':=
 ((h.frame t).perm p).mono fun e _ ⟨s1,e1,hR⟩=>e1 ▸ hr e s1 hR
end Go.Proofs.Hk

set_option linter.unusedVariables false
set_option linter.unusedSimpArgs false
namespace Go.Proofs.Hk
open Go
/-! Code that stands in a function, and in a round of a range over a function. -/
def FR (ρ:Option Nat):Fence:=
 match ρ with
 |none=>Fence.wide
 |some l=>Fence.wide.inRound l
theorem FR_round (ρ:Option Nat):(FR ρ).round=ρ:=by cases ρ<;>rfl
theorem FR_fn (ρ:Option Nat) (f:FuncId):(FR ρ).fn f:=by cases ρ<;>trivial
theorem FR_depth (ρ:Option Nat):(FR ρ).depth=none:=by cases ρ<;>rfl
theorem callsIn_FR {ρ:Option Nat} {n:Nat} {P:Program} {f:FuncId} {args:Array Value} {w:World} {R:Ending→World→Prop} (h:Calls P f args w R):CallsIn (FR ρ) n P f args w R:=by
 have h:CallsIn Fence.wide n P f args w R:=callsIn_wide.2 h
 cases ρ<;>exact h
theorem roundIn_FR {ρ:Option Nat} {n:Nat} {P:Program} {l:Nat} {f:FuncId} {tmps:Array Value} {assign body:Code} {w:World} {R:Ending→World→Prop} (h:RoundIn Fence.wide n P l f tmps assign body w R):RoundIn (FR ρ) n P l f tmps assign body w R:=by
 cases ρ<;>exact h
def dfOp:Op→Bool
 |.defer _=>true
 |_=>false
/-- Code that may stand in a round. -/
def noDef:Code→Bool
 |.region _ ops _=>ops.toList.all fun o=>!dfOp o.op
 |.seq x y=>noDef x && noDef y
 |.cond _ x y=>noDef x && noDef y
 |.block _ b=>noDef b
 |.loop b=>noDef b
 |.scope _=>false
 |.rangeFunc _ _ _ _=>false
 |.goto _=>false
 |.refuse _=>false
 |_=>true
def Oper.uponY (P:Program) (o:Oper) (a:Act) (next:Act→World→Prop) (Q:Exit→Act→World→Prop):Result Next→Prop
 |.ok (.value v) w'=>next (a.put o.dst v) w'
 |.ok .skip w'=>next (a.put o.dst undef) w'
 |.ok (.enter f args) w'=>Calls P f args w' fun
   |.returned v,w''=>next (a.put o.dst v) w''
   |.panicked chain,w''=>Q (.panic chain) a w''
   |.outgrown,_=>LetsOut Q
 |.ok (.round l f tmps assign body) w'=>RoundIn Fence.wide 0 P l f tmps assign body w' fun
   |.returned v,w''=>next (a.put o.dst v) w''
   |.panicked chain,w''=>Q (.panic chain) a w''
   |.outgrown,_=>LetsOut Q
 |.halt (.panic v) w'=>Q (.panic [{ v,recovered:=false}]) a w'
 |_=>False
def Oper.wpY (P:Program) (o:Oper) (a:Act) (w:World) (next:Act→World→Prop) (Q:Exit→Act→World→Prop):Prop:=
 Oper.uponY P o a next Q ((execOp a.eval o).run P w)
theorem Oper.uponY_enter (P:Program) (o:Oper) (a:Act) (next:Act→World→Prop) (Q:Exit→Act→World→Prop) (w:World) (f:FuncId) (args:Array Value):Oper.uponY P o a next Q (.ok (.enter f args) w)=Calls P f args w fun
  |.returned v,w''=>next (a.put o.dst v) w''
  |.panicked chain,w''=>Q (.panic chain) a w''
  |.outgrown,_=>LetsOut Q:=rfl
theorem Oper.uponY_panic (P:Program) (o:Oper) (a:Act) (next:Act→World→Prop) (Q:Exit→Act→World→Prop) (w:World) (v:Value):Oper.uponY P o a next Q (.halt (.panic v) w)=Q (.panic [{ v,recovered:=false}]) a w:=rfl
theorem Oper.uponY_value (P:Program) (o:Oper) (a:Act) (next:Act→World→Prop) (Q:Exit→Act→World→Prop) (w:World) (v:Value):Oper.uponY P o a next Q (.ok (.value v) w)=next (a.put o.dst v) w:=rfl
def wpOpY (P:Program) (ops:Array Oper) (Q:Exit→Act→World→Prop) (i:Nat) (K:Act→World→Prop) (a:Act) (w:World):Prop:=
 match ops[i]? with
 |none=>K a w
 |some o=>if Region.wanted o (yielded ops a.tmps) then Oper.wpY P o a w K Q∨(False∧LetsOut Q) else K (a.put o.dst undef) w
def wpOpsY (P:Program) (ops:Array Oper) (Q:Exit→Act→World→Prop):List Nat→Act→World→Prop
 |[],a,w=>Q .normal a w
 |i::rest,a,w=>
  match ops[i]? with
  |none=>wpOpsY P ops Q rest a w
  |some o=>if Region.wanted o (yielded ops a.tmps) then Oper.wpY P o a w (wpOpsY P ops Q rest) Q∨(False∧LetsOut Q) else wpOpsY P ops Q rest (a.put o.dst undef) w
def wpAnyY (P:Program) (md:Region.Mode) (ops:Array Oper) (Q:Exit→Act→World→Prop):Nat→Array Bool→Act→World→Prop
 |0,listed,a,w=>Region.ready md ops listed=[]∧Q .normal a w
 |fuel+1,listed,a,w=>
  (Region.ready md ops listed=[]→Q .normal a w)∧
  ∀ i∈Region.ready md ops listed,wpOpY P ops Q i (wpAnyY P md ops Q fuel (listed.setIfInBounds i true)) a w
variable {P:Program} {Q:Exit→Act→World→Prop} {a:Act} {w:World}
theorem wpY_in {ρ:Option Nat} {o:Oper} {next next':Act→World→Prop} (hnd:ρ.isSome=true→dfOp o.op=false) (hn:∀ a w,next a w→next' a w) (h:Oper.wpY P o a w next Q):o.wpIn (FR ρ) 0 P a w next' Q:=by
 refine ⟨fun f _=>FR_fn ρ f,?_⟩
 have e:o.semAt (FR ρ).round a.eval=execOp a.eval o:=by
  rw [FR_round]
  cases ρ with
  |none=>rfl
  |some l=>exact Oper.semAt_eq _ _ _ fun c hc=>by have:=hnd rfl;rw [hc] at this;simp [dfOp] at this
 rw [e]
 unfold Oper.wpY at h
 have hd:∀ {q:Prop},(FR ρ).depth.isSome=true→q:=fun h=>by rw [FR_depth] at h;cases h
 generalize (execOp a.eval o).run P w=r at *
 cases r with
 |ok nx w'=>
  cases nx<;>simp only [Oper.uponY] at h<;>(try exact h.elim)
  ·exact hn _ _ h
  ·exact hn _ _ h
  ·rw [Oper.uponIn_enter]
   refine ⟨hd,(callsIn_FR h).mono fun e w'' he=>?_⟩
   cases e<;>first|exact hn _ _ he|exact he
  ·rw [Oper.uponIn_round]
   refine ⟨hd,(roundIn_FR h).mono fun e w'' he=>?_⟩
   cases e<;>first|exact hn _ _ he|exact he
 |halt x w'=>
  cases x<;>simp only [Oper.uponY] at h<;>(try exact h.elim)
  exact h
theorem wpOpsY_in {ρ:Option Nat} {ops:Array Oper} (hnd:ρ.isSome=true→(ops.toList.all fun o=>!dfOp o.op)=true):∀ (l:List Nat) (a:Act) (w:World),wpOpsY P ops Q l a w→wpOpsIn (FR ρ) 0 P ops Q l a w
 |[],_,_,h=>h
 |i::rest,a,w,h=>by
  unfold wpOpsY at h
  unfold wpOpsIn
  split
  ·rename_i ho;simp only [ho] at h;exact wpOpsY_in hnd rest _ _ h
  ·rename_i o ho
   simp only [ho] at h
   have hno:ρ.isSome=true→dfOp o.op=false:=fun hs=>by
    have:=List.all_eq_true.1 (hnd hs) o (Array.mem_toList_iff.2 (Array.mem_of_getElem? ho))
    simpa using this
   split
   ·rename_i hw
    simp only [hw,if_true] at h
    rcases h with h|h
    ·exact wpY_in hno (fun a w=>wpOpsY_in hnd rest a w) h
    ·exact h.1.elim
   ·rename_i hw
    simp only [hw] at h
    exact ⟨fun f _=>FR_fn ρ f,wpOpsY_in hnd rest _ _ (by simpa using h)⟩
theorem wpAnyY_in {ρ:Option Nat} {md:Region.Mode} {ops:Array Oper} (hnd:ρ.isSome=true→(ops.toList.all fun o=>!dfOp o.op)=true):∀ (fuel:Nat) (listed:Array Bool) (a:Act) (w:World),wpAnyY P md ops Q fuel listed a w→wpAnyIn (FR ρ) 0 P md ops Q fuel listed a w
 |0,_,_,_,h=>h
 |fuel+1,listed,a,w,h=>by
  refine ⟨h.1,fun i hi=>?_⟩
  have h:=h.2 i hi
  unfold wpOpY at h
  unfold wpOpIn
  split
  ·rename_i ho;simp only [ho] at h;exact wpAnyY_in hnd fuel _ _ _ h
  ·rename_i o ho
   simp only [ho] at h
   have hno:ρ.isSome=true→dfOp o.op=false:=fun hs=>by
    have:=List.all_eq_true.1 (hnd hs) o (Array.mem_toList_iff.2 (Array.mem_of_getElem? ho))
    simpa using this
   split
   ·rename_i hw
    simp only [hw,if_true] at h
    rcases h with h|h
    ·exact wpY_in hno (fun a w=>wpAnyY_in hnd fuel _ a w) h
    ·exact h.1.elim
   ·rename_i hw
    simp only [hw] at h
    exact ⟨fun f _=>FR_fn ρ f,wpAnyY_in hnd fuel _ _ _ (by simpa using h)⟩
/-- Code, wherever it stands. -/
def wpB (P:Program) (c:Code) (Q:Exit→Act→World→Prop) (a:Act) (w:World):Prop:=∀ ρ:Option Nat,(ρ.isSome=true→noDef c=true)→c.wpIn (FR ρ) 0 P Q a w
theorem wpB.wp {c:Code} (h:wpB P c Q a w):c.wp P Q a w:=wpIn_wide.1 (h none fun e=>by cases e)
theorem wpB_mono {c:Code} {Q':Exit→Act→World→Prop} (h:wpB P c Q a w) (hq:∀ e a w,Q e a w→Q' e a w):wpB P c Q' a w:=fun ρ hd=>wpIn_mono (h ρ hd) hq
theorem wpB_skip (h:Q .normal a w):wpB P .skip Q a w:=fun _ _=>wpIn_skip h
theorem wpB_label {l:Nat} (h:Q .normal a w):wpB P (.label l) Q a w:=fun _ _=>wpIn_label h
theorem wpB_exit {id:Nat} (h:Q (.exit id) a w):wpB P (.exit id) Q a w:=fun _ _=>wpIn_exit h
theorem wpB_ret (h:Q .ret a w):wpB P .ret Q a w:=fun _ _=>wpIn_ret h
theorem and_l {a b:Bool} (h:(a && b)=true):a=true:=(Bool.and_eq_true_iff.1 h).1
theorem and_r {a b:Bool} (h:(a && b)=true):b=true:=(Bool.and_eq_true_iff.1 h).2
theorem wpB_seq {x y:Code} (h:wpB P x (Exit.then (wpB P y Q) Q) a w):wpB P (.seq x y) Q a w:=fun ρ hd=>
 wpIn_seq (wpIn_mono (h ρ fun e=>and_l (hd e)) fun e a w q=>by
  cases e<;>first|exact q ρ fun e=>and_r (hd e)|exact q)
theorem wpB_cond_true {c:Operand} {x y:Code} (hc:a.eval c = .bool true) (h:wpB P x Q a w):wpB P (.cond c x y) Q a w:=fun ρ hd=>wpIn_cond_true hc (h ρ fun e=>and_l (hd e))
theorem wpB_cond_false {c:Operand} {x y:Code} (hc:a.eval c = .bool false) (h:wpB P y Q a w):wpB P (.cond c x y) Q a w:=fun ρ hd=>wpIn_cond_false hc (h ρ fun e=>and_r (hd e))
theorem wpB_block {id:Nat} {c:Code} (h:wpB P c (Exit.inBlock id Q) a w):wpB P (.block id c) Q a w:=fun ρ hd=>wpIn_block (h ρ hd)
theorem wpB_region {id:Nat} {ops:Array Oper} (h:wpOpsY P ops Q (List.range ops.size) a w):wpB P (.region id ops false) Q a w:=fun ρ hd=>wpIn_region (wpOpsY_in hd _ _ _ h)
theorem wpB_region_any {id:Nat} {ops:Array Oper} (hm:P.follows .mixedOrders=true) (h:wpAnyY P .any ops Q ops.size (Array.replicate ops.size false) a { w with drawn:=w.drawn+1}):wpB P (.region id ops true) Q a w:=
 fun ρ hd=>wpIn_region_any hm (wpAnyY_in hd _ _ _ _ h)
theorem wpB_scope {c:Code} (h:c.wp P (Exit.noGoto Q) a w):wpB P (.scope c) Q a w:=fun ρ hd=>by
 cases ρ with
 |none=>exact wpIn_wide.2 (wp_scope_straight h)
 |some l=>exact absurd (hd rfl) (by simp [noDef])
theorem wpB_loop {c:Code} (I:Nat→Act→World→Prop) (m0:Nat) (h0:I m0 a w)
  (round:∀ m a w,I m a w→wpB P c (Exit.then (fun a' w'=>∃ m',m' < m∧I m' a' w') Q) a w):wpB P (.loop c) Q a w:=fun ρ hd=>by
 intro b k cs hro hb hr
 have key:∀ j a w,I j a w→
   ∃ e a' w',Q e a' w'∧ArrivesIn (Machine.fenced P (FR ρ)) P (lone (b.atR a (.code c::.inLoop c::k)) cs w) b k cs e a' w':=by
  intro j
  induction j using Nat.strongRecOn with
  |_ j ih=>
   intro a w hI
   obtain ⟨e,a₁,w₁,hq,harr⟩:=round j a w hI ρ hd b (.inLoop c::k) cs hro hb hr
   cases e with
   |normal=>
    obtain ⟨m',hlt,hI₁⟩:=hq
    obtain ⟨e₂,a₂,w₂,hq₂,harr₂⟩:=ih m' hlt a₁ w₁ hI₁
    exact ⟨e₂,a₂,w₂,hq₂,.of_steps (StepsIn.trans harr (.one (fenced_calm hb hr rfl) stepR_inLoop)) harr₂⟩
   |exit id=>exact ⟨_,a₁,w₁,hq,.pass (x:=.inLoop c) rfl (fun _ _=>.inl (by simp)) harr⟩
   |goto l=>exact ⟨_,a₁,w₁,hq,.pass (x:=.inLoop c) rfl (fun _ _=>.inl (by simp)) harr⟩
   |ret=>exact ⟨_,a₁,w₁,hq,.pass (x:=.inLoop c) rfl (fun _ _=>.inl (by simp)) harr⟩
   |panic ch=>exact ⟨_,a₁,w₁,hq,.pass (x:=.inLoop c) rfl (fun _ _=>.inl (by simp)) harr⟩
   |outgrown=>exact ⟨_,a₁,w₁,hq,.pass (x:=.inLoop c) rfl (fun _ _=>.inl (by simp)) harr⟩
 obtain ⟨e,a',w',hq,harr⟩:=key m0 a w h0
 exact ⟨e,a',w',hq,.of_steps (.one (fenced_calm hb hr rfl) stepR_loop) harr⟩
theorem calls_of_wpB {f:FuncId} {fn:Func} {c:Code} {args:Array Value} {R:Ending→World→Prop} (hf:P.funcs[f]? = some fn) (hb:fn.body=some c)
  (h:wpB P c (bodyPost P fn R) { tmps:=args ++ Array.replicate (fn.ntmps - args.size) undef,defers:=[]} w):Calls P f args w R:=calls_of_wp hf hb h.wp
end Go.Proofs.Hk

namespace Go.Proofs.Hk
noncomputable section
open Go
/-! Types, as far as they are asked. -/
inductive Sh where
 |int (k:IntKind)
 |bool
 |string
 |slice (elem:TypeId)
 |struct (fs:List (Nat × Nat × Bool)) (eq:Bool)
 |array (n:Nat) (elem:TypeId)
 |map (key elem:TypeId)
 |ptr (elem:TypeId)
 |func
 |iface
 |other
structure TyD where
 size:Nat
 bytes:Nat
 isAgg:Bool
 zero:Value
 sh:Sh
def descAgg:TypeDesc→Bool
 |.struct _=>true
 |.array _ _=>true
 |_=>false
/-- A type that '==' may be asked of, part by part. -/
def descPlain:TypeDesc→Bool
 |.int _=>true
 |.bool=>true
 |.string=>true
 |_=>false
def fieldsOK (P:Program):List Field→List (Nat × Nat × Bool)→Prop
 |[],l=>l=[]
 |f::fs,l=>∃ o s b l',l=(o,s,b)::l'∧f.offset=o∧(∃ i u,P.info? f.type=some i∧P.underlying f.type=some u∧i.size=s∧descAgg u=b)∧fieldsOK P fs l'
def fieldsEq (P:Program):List Field→Bool
 |[]=>true
 |f::fs=>(f.name != "_") && ((P.underlying f.type).any descPlain) && fieldsEq P fs
def shOK (P:Program):TypeDesc→Sh→Prop
 |.int k,.int k'=>k=k'
 |.bool,.bool=>True
 |.string,.string=>True
 |.slice e,.slice e'=>e=e'
 |.struct fs,.struct l eq=>fieldsOK P fs.toList l∧(eq=true→fieldsEq P fs.toList=true)
 |.array n e,.array n' e'=>n=n'∧e=e'
 |.map k e,.map k' e'=>k=k'∧e=e'
 |.pointer e,.ptr e'=>e=e'
 |.func _ _ _,.func=>True
 |.interface _,.iface=>True
 |_,.other=>True
 |_,_=>False
def TyOK (P:Program) (t:TypeId) (d:TyD):Prop:=
 ∃ i u,P.info? t=some i∧P.underlying t=some u∧i.size=d.size∧i.bytes=d.bytes∧i.zero=some d.zero∧descAgg u=d.isAgg∧shOK P u d.sh∧d.zero.cells.size=d.size
/-- Sorts of fields that '==' compares at once. -/
inductive PK where
 |int
 |bool
 |string
def pkOf:TypeDesc→PK→Bool
 |.int _,.int=>true
 |.bool,.bool=>true
 |.string,.string=>true
 |_,_=>false
def eqFsB (P:Program):List Field→List (Nat × PK)→Bool
 |[],[]=>true
 |f::fs,(o,k)::l=>(f.name != "_") && (f.offset == o) && ((P.underlying f.type).any fun u=>pkOf u k) && eqFsB P fs l
 |_,_=>false
/-- What '==' of a struct comes to is known. -/
def EqOK (P:Program) (t:TypeId) (l:List (Nat × PK)):Prop:=
 P.stoodInHeld t=false∧P.eqGuardType P.depth t=false∧∃ fs,P.underlying t=some (.struct fs)∧eqFsB P fs.toList l=true
/-- A program, with what is known of its types and functions. -/
structure Cx where
 P:Program
 ty:Nat→Option TyD
 fn:Nat→Bool
 ty_ok:∀ t d,ty t=some d→TyOK P t d
 fn_ok:∀ f,fn f=true→∃ d,P.funcs[f]? = some d∧d.body.isNone=false∧(d.name == "runtime.NumGoroutine")=false
 orders:P.follows .mixedOrders=true
 eqs:Nat→Option (List (Nat × PK))
 eq_ok:∀ t l,eqs t=some l→EqOK P t l
  /-- Slice types whose new rows are to be written element by element. -/
 rows:TypeId→Bool:=fun _=>false
  /-- So too, but only where the first element that is appended is a nought, to be written at once. -/
 rowsZ:TypeId→Bool:=fun _=>false
  /-- A function's text. -/
 func:Nat→Option Func:=fun f=>P.funcs[f]?
 func_ok:∀ f d,func f=some d→P.funcs[f]? = some d:=by intro f d h;exact h
/-! Frames. -/
def vOne:Value→Bool
 |.agg _=>false
 |.tuple _=>false
 |_=>true
/-- A constant of several cells. -/
def evAgg (cs:Array Value):Option (Tag × HV):=
 match cs.toList.all vOne with
 |true=>some (.sure,.agg (cs.toList.map .v))
 |false=>none
def ev (a:Fr):Operand→Option (Tag × HV)
 |.tmp t=>a.get t
 |.const v=>match v with
  |.agg cs=>evAgg cs
  |.tuple _=>none
  |v=>some (.sure,.v v)
 |.func f=>some (.sure,.fn (.func f) [] [])
 |.global _=>none
structure FRel (G:Ghost) (n:Nat) (a:Fr) (ra:Act):Prop where
 size:ra.tmps.size=n
 defers:ra.defers=G.df
 slots:∀ t g x,a.get t=some (g,x)→t < n∧tagRel G g x (ra.tmps.getD t undef)
/-- A list whose spine is laid open first. -/
def forceL {α:Type} {β:Sort _} (l:List α) (k:List α→β):β:=List.rec (motive:=fun _=>(List α→β)→β) (fun k=>k []) (fun x _ ih k=>ih fun ys=>k (x::ys)) l k
theorem forceL_eq {α:Type} {β:Sort _} : ∀ (l:List α) (k:List α→β),forceL l k=k l
 |[],_=>rfl
 |x::xs,k=>(forceL_eq xs (fun ys=>k (x::ys)))
/-! Operations. -/
/-- What is asked beside what goes on. -/
structure Side (φ K:Prop):Prop where
 side:φ
 k:K
/-- Two ways. -/
structure Br (b:Bool) (X Y:Prop):Prop where
 yes:b=true→X
 no:b=false→Y
inductive OpRes where
 |bad
 |pure (x:HV)
 |val (φ:Prop) (x:HV)
 |call (φ:Prop) (f:FuncId) (args:List HV)
 |pan (φ:Prop) (x:HV)
 |eff (W:(HV→HS→Prop)→Prop)
 |look (r:Nat) (k:Res→OpRes)
def OpRes.need (φ:Prop):OpRes→OpRes
 |.bad=>.bad
 |.pure x=>.val φ x
 |.val ψ x=>.val (φ∧ψ) x
 |.call ψ f l=>.call (φ∧ψ) f l
 |.pan ψ x=>.pan (φ∧ψ) x
 |.eff W=>.eff fun K=>Side φ (W K)
 |.look r k=>.look r fun x=>(k x).need φ
def arg (a:Fr) (x:Operand) (k:HV→OpRes):OpRes:=
 match ev a x with
 |none=>.bad
 |some (.sure,v)=>k v
 |some (.cond b,v)=>(k v).need (b=true)
def argsM (a:Fr):List Operand→(List HV→OpRes)→OpRes
 |[],k=>k []
 |x::xs,k=>arg a x fun v=>argsM a xs fun vs=>k (v::vs)
def strEq (a b:ByteArray):Bool:=a.toList == b.toList
def kindEq:IntKind→IntKind→Bool
 |.i8,.i8=>true|.i16,.i16=>true|.i32,.i32=>true|.i64,.i64=>true
 |.u8,.u8=>true|.u16,.u16=>true|.u32,.u32=>true|.u64,.u64=>true
 |_,_=>false
theorem kindEq_eq {a b:IntKind} (h:kindEq a b=true):a=b:=by cases a<;>cases b<;>first|rfl|simp [kindEq] at h
def hint (op:BinOp) (k:IntKind) (a b:Int):OpRes:=
 match op with
 |.add=>.pure (.v (.int k (k.wrap (a+b))))
 |.sub=>.pure (.v (.int k (k.wrap (a - b))))
 |.mul=>.pure (.v (.int k (k.wrap (a * b))))
 |.quo=>.val (b≠0) (.v (.int k (k.wrap (a.tdiv b))))
 |.rem=>.val (b≠0) (.v (.int k (a.tmod b)))
 |.and=>.pure (.v (.int k (k.wrap (BitVec.ofInt k.bits a &&& BitVec.ofInt k.bits b).toNat)))
 |.or=>.pure (.v (.int k (k.wrap (BitVec.ofInt k.bits a|||BitVec.ofInt k.bits b).toNat)))
 |.xor=>.pure (.v (.int k (k.wrap (BitVec.ofInt k.bits a ^^^ BitVec.ofInt k.bits b).toNat)))
 |.eql=>.pure (.v (.bool (a == b)))
 |.neq=>.pure (.v (.bool (a != b)))
 |.lss=>.pure (.v (.bool (decide (a < b))))
 |.leq=>.pure (.v (.bool (decide (a≤b))))
 |.gtr=>.pure (.v (.bool (decide (a > b))))
 |.geq=>.pure (.v (.bool (decide (a≥b))))
 |_=>.bad
def hstr (op:BinOp) (a b:ByteArray):OpRes:=
 match op with
 |.add=>.val (((a.size+b.size:Nat):Int)≤9223372036854775807) (.v (.string (a ++ b)))
 |.eql=>.pure (.v (.bool (strEq a b)))
 |.neq=>.pure (.v (.bool (!strEq a b)))
 |_=>.bad
def hbin (op:BinOp) (x y:HV):OpRes:=
 match x,y with
 |.v (.int k a),.v (.int k' b)=>
  match op with
  |.shl=>.val (0≤b) (.v (.int k (k.wrap (a * 2 ^ (min b.toNat k.bits)))))
  |.shr=>.val (0≤b) (.v (.int k (a.fdiv (2 ^ (min b.toNat k.bits)))))
  |op=>match kindEq k k' with
   |true=>hint op k a b
   |false=>.bad
 |.v (.string a),.v (.string b)=>hstr op a b
 |_,_=>.bad
/-- A part of a struct. -/
def hpart (l:List HV) (o s:Nat) (agg:Bool):OpRes:=
 match agg with
 |true=>match Nat.ble (o+s) l.length with
  |true=>forceL ((l.drop o).take s) fun l=>.pure (.agg l)
  |false=>.bad
 |false=>match l[o]? with
  |some x=>.pure x
  |none=>.bad
def HV.cells:HV→List HV
 |.agg l=>l
 |x=>[x]
def hget (s:HS) (r:Nat):Option Res:=
 match s with
 |[]=>none
 |(q,x)::s=>if q=r then some x else hget s r
def hset (s:HS) (r:Nat) (y:Res):HS:=
 match s with
 |[]=>[]
 |(q,x)::s=>if q=r then (q,y)::s else (q,x)::hset s r y
theorem hget_nil (r:Nat):hget [] r=none:=rfl
theorem hget_cons (q:Nat) (x:Res) (s:HS) (r:Nat):hget ((q,x)::s) r=if q=r then some x else hget s r:=rfl
theorem hset_nil (r:Nat) (y:Res):hset [] r y=[]:=rfl
theorem hset_cons (q:Nat) (x:Res) (s:HS) (r:Nat) (y:Res):hset ((q,x)::s) r y=if q=r then (q,y)::s else (q,x)::hset s r y:=rfl
attribute [irreducible] hget hset
def kdOk:HV→Bool
 |.tup _=>false
 |_=>true
def kdOne:HV→Bool
 |.agg _=>false
 |.tup _=>false
 |_=>true
def kdAgg:HV→Bool
 |.agg _=>true
 |_=>false
theorem kdOk_ne {x:HV} (h:kdOk x=true):x.kd≠.tup:=by cases x<;>simp_all [kdOk,HV.kd]
theorem kdOne_eq {x:HV} (h:kdOne x=true):x.kd = .one:=by cases x<;>simp_all [kdOne,HV.kd]
theorem kdAgg_eq {x:HV} (h:kdAgg x=true):x.kd = .agg:=by cases x<;>simp_all [kdAgg,HV.kd]
/-- Loads: of memory that never changes, of an object. -/
def hload (c:Cx) (t:TypeId) (p:HV):OpRes:=
 match c.ty t with
 |none=>.bad
 |some d=>match p with
  |.cptr x=>match d.isAgg with
   |true=>.val ((kdAgg x && Nat.beq x.cells.length d.size)=true) x
   |false=>.val (kdOne x=true) x
  |.ptr r off=>.look r fun
   |.cells cs _=>match d.isAgg with
    |true=>match Nat.ble (off+d.size) cs.length with
     |true=>forceL ((cs.drop off).take d.size) fun l=>.pure (.agg l)
     |false=>.bad
    |false=>match cs[off]? with
     |some x=>.val (kdOne x=true) x
     |none=>.bad
   |_=>.bad
  |_=>.bad
/-- What becomes of cells that are written to. -/
structure Upd (cs:List HV) (off n:Nat) (ys:List HV) (K:List HV→Prop):Prop where
 le:off+n≤cs.length
 k:K (cs.take off ++ ys ++ cs.drop (off+n))
def hstore (c:Cx) (s:HS) (t:TypeId) (p x:HV):OpRes:=
 match c.ty t with
 |none=>.bad
 |some d=>match p with
  |.ptr r off=>.look r fun
   |.cells cs t'=>match kdOk x && Nat.beq x.cells.length d.size with
    |true=>.eff fun K=>Upd cs off d.size x.cells fun l=>K (.tup []) (hset s r (.cells l t'))
    |false=>.bad
   |_=>.bad
  |_=>.bad
def hnew (s:HS) (t:TypeId) (x:HV):OpRes:=
 match kdOk x with
 |true=>forceL x.cells fun l=>.eff fun K=>∀ r,r∉keys s→K (.ptr r 0) ((r,.cells l t)::s)
 |false=>.bad
def hzero (c:Cx) (t:TypeId):Option HV:=
 match c.ty t with
 |none=>none
 |some d=>match d.zero with
  |.agg cs=>match cs.toList.all vOne with
   |true=>some (.agg (cs.toList.map .v))
   |false=>none
  |.tuple _=>none
  |v=>some (.v v)
/-- A struct out of its parts. -/
def hfill (fs:List (Nat × Nat × Bool)):List (Nat × HV)→List HV→Option (List HV)
 |[],l=>some l
 |(i,x)::rest,l=>match fs[i]? with
  |none=>none
  |some (o,s,_)=>match Nat.beq x.cells.length s with
   |false=>none
   |true=>match kdOk x with
    |true=>match Nat.ble (o+s) l.length with
     |true=>hfill fs rest (l.take o ++ x.cells ++ l.drop (o+s))
     |false=>none
    |false=>none
end
end Go.Proofs.Hk

namespace Go.Proofs.Hk
noncomputable section
open Go
/-- A bound of a slice expression; hi: what it may be at most. -/
def hbound (x:Option HV) (dflt:Nat) (k:Prop→Nat→OpRes):OpRes:=
 match x with
 |none=>k True dflt
 |some (.v (.int _ n))=>k (0≤n) n.toNat
 |_=>.bad
def argO (a:Fr) (x:Option Operand) (k:Option HV→OpRes):OpRes:=
 match x with
 |none=>k none
 |some x=>arg a x fun v=>k (some v)
/-- The end of a row that is cut: who may append to it then. -/
def Tok.cut (t:Tok) (lo:Nat) (whole:Bool) (most:Bool):Tok:=
 match most with
 |true=>.full
 |false=>match t with
  |.own i st=>.own i (st+lo)
  |.full=>match whole with
   |true=>.full
   |false=>.no
  |.no=>.no
def hslice (c:Cx) (t:TypeId) (x:HV) (lo hi mx:Option HV):OpRes:=
 match c.ty t with
 |some ⟨_,_,_,_,.string⟩=>match x,mx with
  |.v (.string s),none=>hbound hi s.size fun p2 h=>hbound lo 0 fun p1 l=>.val (p1∧p2∧l≤h∧h≤s.size) (.v (.string (s.extract l h)))
  |_,_=>.bad
 |some ⟨_,_,_,_,.slice e⟩=>match c.ty e with
  |none=>.bad
  |some d=>match x with
   |.list t sz xs=>match Nat.beq sz d.size with
    |false=>.bad
    |true=>match mx with
     |none=>hbound lo 0 fun p1 l=>match hi with
      |none=>.val (p1∧l≤xs.length) (.list (t.cut l true false) sz (xs.drop l))
      |some hi=>hbound (some hi) 0 fun p2 h=>.val (p1∧p2∧l≤h∧h≤xs.length) (.list (t.cut l false false) sz ((xs.take h).drop l))
     |some mx=>match hi with
      |none=>.bad
      |some hi=>hbound (some mx) 0 fun p3 m=>hbound (some hi) 0 fun p2 h=>hbound lo 0 fun p1 l=>.val (p1∧p2∧p3∧l≤h∧m=h∧h≤xs.length) (.list (t.cut l false true) sz ((xs.take h).drop l))
   |.arr r off len cap sz=>match mx with
    |none=>match Nat.beq sz d.size with
     |false=>.bad
     |true=>hbound hi len fun p2 h=>hbound lo 0 fun p1 l=>.val (p1∧p2∧l≤h∧h≤len∧l < cap∧len≤cap) (.arr r (off+l * sz) (h - l) (cap - l) sz)
    |some _=>.bad
   |_=>.bad
 |_=>.bad
def hindexAddr (c:Cx) (t:TypeId) (x i:HV):OpRes:=
 match c.ty t with
 |some ⟨_,_,_,_,.slice e⟩=>match c.ty e with
  |none=>.bad
  |some d=>match i with
   |.v (.int _ n)=>match x with
    |.list _ sz l=>.val (0≤n∧n < l.length∧sz=d.size) (.cptr (l.getD n.toNat default))
    |.arr r off len _ sz=>.val (0≤n∧n < len∧sz=d.size) (.ptr r (off+n.toNat * sz))
    |_=>.bad
   |_=>.bad
 |_=>.bad
def byteAt (s:ByteArray) (n:Int):Int:=((s.data.toList.getD n.toNat 0).toNat:Int)
def hindex (c:Cx) (t:TypeId) (x i:HV):OpRes:=
 match c.ty t with
 |some ⟨_,_,_,_,.string⟩=>match x,i with
  |.v (.string s),.v (.int _ n)=>.val (0≤n∧n < s.size) (.v (.int .u8 (byteAt s n)))
  |_,_=>.bad
 |_=>.bad
def hfieldAddr (c:Cx) (t:TypeId) (x:HV) (f:Nat):OpRes:=
 match c.ty t with
 |some ⟨_,_,_,_,.struct fs _⟩=>match fs[f]? with
  |none=>.bad
  |some (o,s,agg)=>match Nat.beq s 0 with
   |true=>.bad
   |false=>match x with
    |.ptr r off=>.pure (.ptr r (off+o))
    |.cptr x=>match agg with
     |true=>.val ((kdAgg x && Nat.ble (o+s) x.cells.length)=true) (.cptr (.agg ((x.cells.drop o).take s)))
     |false=>match x.cells[o]? with
      |some y=>.val ((kdAgg x && kdOne y && Nat.beq s 1)=true) (.cptr y)
      |none=>.bad
    |_=>.bad
 |_=>.bad
def hfield (c:Cx) (t:TypeId) (x:HV) (f:Nat):OpRes:=
 match c.ty t with
 |some ⟨_,_,_,_,.struct fs _⟩=>match fs[f]? with
  |none=>.bad
  |some (o,s,agg)=>match x with
   |.agg l=>hpart l o s agg
   |_=>.bad
 |_=>.bad
def hbuild (c:Cx) (t:TypeId) (parts:List (Nat × HV)):OpRes:=
 match c.ty t with
 |some ⟨_,_,_,.agg cs,.struct fs _⟩=>match (match cs.toList.all vOne with|true=>hfill fs parts (cs.toList.map .v)|false=>none) with
  |some l=>forceL l fun l=>.pure (.agg l)
  |none=>.bad
 |_=>.bad
/-- All parts, in order. -/
def inOrder:List (Nat × HV)→Nat→Option (List HV)
 |[],_=>some []
 |(i,x)::rest,k=>match Nat.beq i k with
  |true=>match inOrder rest (k+1) with
   |some l=>some (x::l)
   |none=>none
  |false=>none
def allCells (sz:Nat):List HV→Bool
 |[]=>true
 |x::xs=>Nat.beq x.cells.length sz && kdOk x && allCells sz xs
def hbuildSlice (c:Cx) (t:TypeId) (n:Nat) (parts:List (Nat × HV)):OpRes:=
 match c.ty t with
 |some ⟨_,_,_,_,.slice e⟩=>match c.ty e with
  |none=>.bad
  |some d=>match inOrder parts 0 with
   |none=>.bad
   |some l=>match Nat.beq l.length n && allCells d.size l && Nat.ble (n * d.size) 16777216 with
    |true=>.pure (.list .full d.size l)
    |false=>.bad
 |_=>.bad
/-- What is appended, element by element. -/
def hmore (d:TyD) (y:HV):Option (List HV):=
 match y with
 |.list _ sz l=>match Nat.beq sz d.size with
  |true=>some l
  |false=>none
 |.v (.slice none 0 0)=>some []
 |.v (.string s)=>match Nat.beq d.size 1 with
  |true=>some (s.data.toList.map fun b=>.v (.int .u8 b.toNat))
  |false=>none
 |_=>none
def isRow (c:Cx) (t:TypeId):Bool:=
 match c.ty t with
 |some ⟨_,_,_,_,.slice _⟩=>true
 |some ⟨_,_,_,_,.string⟩=>true
 |_=>false
def sliceElem (c:Cx) (t:TypeId):Option TyD:=
 match c.ty t with
 |some ⟨_,_,_,_,.slice e⟩=>c.ty e
 |_=>none
def leafEqV:PK→HV→HV→Option Bool
 |.int,.v (.int k a),.v (.int k' b)=>match kindEq k k' with
  |true=>some (a == b)
  |false=>none
 |.bool,.v (.bool a),.v (.bool b)=>some (a == b)
 |.string,.v (.string a),.v (.string b)=>some (strEq a b)
 |_,_,_=>none
def fieldsV (xs ys:List HV):List (Nat × PK)→Option Bool
 |[]=>some true
 |(o,k)::l=>match xs[o]?,ys[o]? with
  |some x,some y=>match leafEqV k x y,fieldsV xs ys l with
   |some e,some r=>some (e && r)
   |_,_=>none
  |_,_=>none
/-- '==' of structs. -/
def hstructEq (c:Cx) (op:BinOp) (t:TypeId) (xs ys:List HV):OpRes:=
 match c.eqs t with
 |none=>.bad
 |some l=>match fieldsV xs ys l with
  |none=>.bad
  |some r=>match op with
   |.eql=>.pure (.v (.bool r))
   |.neq=>.pure (.v (.bool (!r)))
   |_=>.bad
def sliceElemT (c:Cx) (t:TypeId):Option TypeId:=
 match c.ty t with
 |some ⟨_,_,_,_,.slice e⟩=>some e
 |_=>none
/-- A slice held against nil: an empty one may be nil, or not. -/
def hnil (c:Cx) (s:HS) (op:BinOp) (t:TypeId) (e:Prop):OpRes:=
 match sliceElemT c t with
 |none=>.bad
 |some _=>match op with
  |.eql=>.eff fun K=>∀ b:Bool,(b=true→e)→K (.v (.bool b)) s
  |.neq=>.eff fun K=>∀ b:Bool,(b=false→e)→K (.v (.bool b)) s
  |_=>.bad
def hbinT (c:Cx) (s:HS) (op:BinOp) (t:TypeId) (u v:HV):OpRes:=
 match u,v with
 |.list _ _ l,.v (.slice none 0 0)=>hnil c s op t (l=[])
 |.arr _ _ _ _ _,.v (.slice none 0 0)=>hnil c s op t False
 |.v (.slice none 0 0),.v (.slice none 0 0)=>hnil c s op t True
 |.agg xs,.agg ys=>hstructEq c op t xs ys
 |.v (.bool a),.v (.bool b)=>match c.ty t with
  |some ⟨_,_,_,_,.bool⟩=>match op with
   |.eql=>.pure (.v (.bool (a == b)))
   |.neq=>.pure (.v (.bool (a != b)))
   |_=>.bad
  |_=>.bad
 |u,v=>hbin op u v
/-- So many times the same cells. -/
def hrep (n:Nat) (l:List HV):List HV:=
 match l with
 |[z]=>List.replicate n z
 |l=>(List.replicate n l).flatten
/-- A new row: to be appended to, or to be written. -/
structure Grow2 (A V:Prop):Prop where
 out:A∨V
/-- A row that whoever may append to. -/
def hgrow (c:Cx) (s:HS) (t:TypeId) (d:TyD) (x:HV) (l ys:List HV):OpRes:=
 .eff fun K=>Side ((l.length+ys.length) * d.bytes≤140737488355328) <|match ys with
  |[]=>K x s
  |_=>Grow2 (∀ r,r∉keys s→K (.list (.own r 0) d.size (l ++ ys)) ((r,.tok (l.length+ys.length))::s))
    (∃ e z,sliceElemT c t=some e∧hzero c e=some z∧kdOk z=true∧∀ r,r∉keys s→∀ cap,l.length+ys.length≤cap→K (.arr r 0 (l.length+ys.length) cap d.size) ((r,.cells ((l ++ ys).flatMap HV.cells ++ hrep (cap - (l.length+ys.length)) z.cells) e)::s))
def happend (c:Cx) (s:HS) (t u:TypeId) (x y:HV):OpRes:=
 match sliceElem c t with
 |none=>.bad
 |some d=>match isRow c u && Nat.blt 0 d.bytes && Nat.blt 0 d.size with
  |false=>.bad
  |true=>match hmore d y with
   |none=>.bad
   |some ys=>match x with
    |.v (.slice none 0 0)=>hgrow c s t d x [] ys
    |.list .full sz l=>match Nat.beq sz d.size with
     |true=>hgrow c s t d x l ys
     |false=>.bad
    |.list (.own i st) sz l=>match Nat.beq sz d.size with
     |true=>.look i fun
      |.tok n=>.eff fun K=>Side (st+l.length=n) <|Side ((l.length+ys.length) * d.bytes≤140737488355328) <|
        K (.list (.own i st) d.size (l ++ ys)) (hset s i (.tok (n+ys.length)))
      |_=>.bad
     |false=>.bad
    |_=>.bad
def isZeroOp:Operand→Bool
 |.const (.int _ 0)=>true
 |_=>false
/-- make: a row to be written; or, of length nought, one to be appended to. -/
def hmakeSlice (c:Cx) (s:HS) (t:TypeId) (own:Bool) (x y:HV):OpRes:=
 match sliceElemT c t with
 |none=>.bad
 |some e=>match c.ty e,hzero c e with
  |some d,some z=>match Nat.blt 0 d.size && Nat.blt 0 d.bytes && kdOk z with
   |false=>.bad
   |true=>match x,y with
    |.v (.int _ n),.v (.int _ m)=>match own with
     |true=>.eff fun K=>Side (n=0∧0≤m∧m.toNat * d.bytes≤70368744177664) <|∀ r,r∉keys s→K (.list (.own r 0) d.size []) ((r,.tok 0)::s)
     |false=>.eff fun K=>Side (0≤n∧n≤m∧m.toNat * d.bytes≤70368744177664) <|∀ r,r∉keys s→K (.arr r 0 n.toNat m.toNat d.size) ((r,.cells (hrep m.toNat z.cells) e)::s)
    |_,_=>.bad
  |_,_=>.bad
def hlen (c:Cx) (t:TypeId) (x:HV):OpRes:=
 match c.ty t with
 |some ⟨_,_,_,_,.slice _⟩=>match x with
  |.list _ _ l=>.pure (.v (.int .i64 (l.length:Int)))
  |.arr _ _ len _ _=>.pure (.v (.int .i64 (len:Int)))
  |.v (.slice none 0 0)=>.pure (.v (.int .i64 0))
  |_=>.bad
 |some ⟨_,_,_,_,.string⟩=>match x with
  |.v (.string s)=>.pure (.v (.int .i64 (s.size:Int)))
  |_=>.bad
 |_=>.bad
def hbuiltin (c:Cx) (s:HS) (b:Builtin) (ts:List TypeId) (xs:List HV):OpRes:=
 match b,ts,xs with
 |.len,[t],[x]=>hlen c t x
 |.append,[t,u],[x,y]=>happend c s t u x y
 |.min,_,[.v (.int k a),.v (.int k' b)]=>match kindEq k k' with
  |true=>.pure (.v (.int k (if b < a then b else a)))
  |false=>.bad
 |.max,_,[.v (.int k a),.v (.int k' b)]=>match kindEq k k' with
  |true=>.pure (.v (.int k (if a < b then b else a)))
  |false=>.bad
 |_,_,_=>.bad
def hcall (c:Cx) (f:HV) (xs:List HV):OpRes:=
 match f with
 |.fn (.func k) first caps=>.call (c.fn k=true) k (first ++ xs ++ caps)
 |_=>.bad
/-- The method of a type of structs, that is its own and takes a value. -/
def methOf (P:Program) (t:TypeId) (m:String):Option FuncId:=
 match P.info? t with
 |some i=>match i.methods.find? (·.name == m) with
  |some r=>match r.path.toList,r.func with
   |[],some (f,false)=>some f
   |_,_=>none
  |none=>none
 |none=>none
def hinvoke (c:Cx) (m:String) (xs:List HV) (v:HV):OpRes:=
 match v with
 |.iface t x=>match c.ty t with
  |some ⟨_,_,_,_,.struct _ _⟩=>match methOf c.P t m with
   |some f=>.call (c.fn f=true) f (x::xs)
   |none=>.bad
  |_=>.bad
 |_=>.bad
def isU8:HV→Bool
 |.v (.int .u8 _)=>true
 |_=>false
def byteOf:HV→UInt8
 |.v (.int .u8 n)=>UInt8.ofNat n.toNat
 |_=>0
def isBytes (c:Cx) (t:TypeId):Bool:=
 match sliceElemT c t with
 |none=>false
 |some e=>match c.ty e with
  |some ⟨1,_,_,_,.int .u8⟩=>true
  |_=>false
/-- Bytes as a text. -/
def hbytesStr (x:HV):OpRes:=
 match x with
 |.v (.slice none 0 0)=>.pure (.v (.string ⟨#[]⟩))
 |.list _ sz l=>.val (sz=1∧l.all isU8=true) (.v (.string ⟨(l.map byteOf).toArray⟩))
 |.arr r off len _ _=>.look r fun
  |.cells cs _=>.val (off+len≤cs.length∧((cs.drop off).take len).all isU8=true) (.v (.string ⟨(((cs.drop off).take len).map byteOf).toArray⟩))
  |_=>.bad
 |_=>.bad
/-- A text's bytes. -/
def bytesL (b:ByteArray):List HV:=b.data.toList.map fun x=>.v (.int .u8 (x.toNat:Int))
def hconvert (c:Cx) (src dst:TypeId) (x:HV):OpRes:=
 match c.ty dst,x with
 |some ⟨_,_,_,_,.int k⟩,.v (.int _ n)=>match c.ty src with
  |some ⟨_,_,_,_,.int _⟩=>.pure (.v (.int k (k.wrap n)))
  |_=>.bad
 |some ⟨_,_,_,_,.string⟩,.v (.string b)=>match c.ty src with
  |some ⟨_,_,_,_,.string⟩=>.pure (.v (.string b))
  |_=>.bad
 |some ⟨_,_,_,_,.slice _⟩,.v (.string b)=>match isBytes c dst with
  |true=>match c.ty src with
   |some ⟨_,_,_,_,.string⟩=>.pure (.list .no 1 (bytesL b))
   |_=>.bad
  |false=>.bad
 |some ⟨_,_,_,_,.string⟩,x=>match isBytes c src with
  |true=>hbytesStr x
  |false=>.bad
 |_,_=>.bad
def isTrue:Operand→Bool
 |.const (.bool true)=>true
 |_=>false
def isFalse:Operand→Bool
 |.const (.bool false)=>true
 |_=>false
theorem isTrue_eq {x:Operand} (h:isTrue x=true):x = .const (.bool true):=by
 unfold isTrue at h
 split at h
 ·rfl
 ·cases h
theorem isFalse_eq {x:Operand} (h:isFalse x=true):x = .const (.bool false):=by
 unfold isFalse at h
 split at h
 ·rfl
 ·cases h
/-- An interface held against nil. -/
def isNilC:Operand→Bool
 |.const .nilIface=>true
 |_=>false
def hifaceEq (op:BinOp) (b:Bool):OpRes:=
 match op with
 |.eql=>.pure (.v (.bool b))
 |.neq=>.pure (.v (.bool (!b)))
 |_=>.bad
def hifaceNil (c:Cx) (op:BinOp) (t:TypeId) (u:HV):OpRes:=
 match c.ty t with
 |some ⟨_,_,_,_,.iface⟩=>match u with
  |.v .nilIface=>hifaceEq op true
  |.iface _ _=>hifaceEq op false
  |_=>.bad
 |_=>.bad
/-! Maps whose keys are texts or numbers. -/
def hkey (c:Cx) (t:TypeId) (x:HV):Option Value:=
 match c.ty t,x with
 |some ⟨_,_,_,_,.string⟩,.v (.string b)=>some (.string b)
 |some ⟨_,_,_,_,.int k⟩,.v (.int k' n)=>match kindEq k k' with
  |true=>some (.int k' n)
  |false=>none
 |_,_=>none
def keyShB (sh:Sh):Value→Bool
 |.string _=>match sh with
  |.string=>true
  |_=>false
 |.int k _=>match sh with
  |.int k'=>kindEq k' k
  |_=>false
 |_=>false
def keysShB (sh:Sh):List (Value × HV)→Bool
 |[]=>true
 |e::l=>keyShB sh e.1 && keysShB sh l
def hkeysB (c:Cx) (t:TypeId) (es:List (Value × HV)):Bool:=
 match c.ty t with
 |some d=>keysShB d.sh es
 |none=>false
def keyEq:Value→Value→Bool
 |.string a,.string b=>strEq a b
 |.int _ a,.int _ b=>decide (a=b)
 |_,_=>false
def mapV (k:Value) (z:HV):List (Value × HV)→HV
 |[]=>z
 |e::l=>bif keyEq k e.1 then e.2 else mapV k z l
def mapB (k:Value):List (Value × HV)→Bool
 |[]=>false
 |e::l=>keyEq k e.1||mapB k l
def mapSet (k:Value) (x:HV):List (Value × HV)→List (Value × HV)
 |[]=>[(k,x)]
 |e::l=>bif keyEq k e.1 then (e.1,x)::l else e::mapSet k x l
def hmapRes (ok:Bool) (k:Value) (z:HV) (es:List (Value × HV)):HV:=
 match ok with
 |true=>.tup [mapV k z es,.v (.bool (mapB k es))]
 |false=>mapV k z es
def hlookup (c:Cx) (t:TypeId) (x i:HV) (ok:Bool):OpRes:=
 match c.ty t with
 |some ⟨_,_,_,_,.map kt et⟩=>match hkey c kt i,hzero c et with
  |some k,some z=>match x with
   |.v (.map none)=>.pure (hmapRes ok k z [])
   |.map r=>.look r fun
    |.map es=>match hkeysB c kt es with
     |true=>.pure (hmapRes ok k z es)
     |false=>.bad
    |_=>.bad
   |_=>.bad
  |_,_=>.bad
 |_=>.bad
def hmakeMap (c:Cx) (s:HS) (t:TypeId):OpRes:=
 match c.ty t with
 |some ⟨_,_,_,_,.map _ _⟩=>.eff fun K=>∀ r,r∉keys s→K (.map r) ((r,.map [])::s)
 |_=>.bad
def hmapPut (c:Cx) (s:HS) (t:TypeId) (m k x:HV):OpRes:=
 match c.ty t with
 |some ⟨_,_,_,_,.map kt _⟩=>match hkey c kt k,m with
  |some key,.map r=>.look r fun
   |.map es=>match hkeysB c kt es with
    |true=>.eff fun K=>K (.tup []) (hset s r (.map (mapSet key x es)))
    |false=>.bad
   |_=>.bad
  |_,_=>.bad
 |_=>.bad
def hop (c:Cx) (o:Op) (a:Fr) (s:HS):OpRes:=
 match o with
 |.move x|.assign x=>arg a x fun v=>.pure v
 |.pick b x y=>arg a b fun
  |.v (.bool cb)=>match ev a x,ev a y with
   |some (gx,.v (.bool p)),some (gy,.v (.bool q))=>match gx with
    |.sure=>match gy with
     |.sure=>match isTrue x with
      |true=>.pure (.v (.bool (cb||q)))
      |false=>match isFalse y with
       |true=>.pure (.v (.bool (cb && p)))
       |false=>.pure (.v (.bool (bif cb then p else q)))
     |.cond g=>match isTrue x with
      |true=>.val (cb=false→g=true) (.v (.bool (cb||q)))
      |false=>.val (cb=false→g=true) (.v (.bool (bif cb then p else q)))
    |.cond g'=>match gy with
     |.sure=>match isFalse y with
      |true=>.val (cb=true→g'=true) (.v (.bool (cb && p)))
      |false=>.val (cb=true→g'=true) (.v (.bool (bif cb then p else q)))
     |.cond g=>.val ((cb=true→g'=true)∧(cb=false→g=true)) (.v (.bool (bif cb then p else q)))
   |some (gx,x),some (gy,y)=>
    .eff fun K=>Br cb (match gx with|.sure=>K x s|.cond g=>Side (g=true) (K x s)) (match gy with|.sure=>K y s|.cond g=>Side (g=true) (K y s))
   |_,_=>.bad
  |_=>.bad
 |.alloc t=>match hzero c t with
  |some z=>hnew s t z
  |none=>.bad
 |.box t x=>arg a x fun v=>hnew s t v
 |.build t ps=>argsM a (ps.toList.map (·.2)) fun vs=>hbuild c t ((ps.toList.map (·.1)).zip vs)
 |.buildSlice t n ps=>argsM a (ps.toList.map (·.2)) fun vs=>hbuildSlice c t n ((ps.toList.map (·.1)).zip vs)
 |.load t p=>arg a p fun p=>hload c t p
 |.store t p x=>arg a p fun p=>arg a x fun v=>hstore c s t p v
 |.nilCheck x=>arg a x fun
  |.ptr r off=>.pure (.ptr r off)
  |.cptr x=>.pure (.cptr x)
  |.fn (.func f) fi ca=>.pure (.fn (.func f) fi ca)
  |_=>.bad
 |.binOp op t x y _=>match isNilC y with
  |true=>arg a x fun u=>hifaceNil c op t u
  |false=>arg a x fun u=>arg a y fun v=>hbinT c s op t u v
 |.unOp op _ x=>arg a x fun v=>match op,v with
  |.not,.v (.bool b)=>.pure (.v (.bool (!b)))
  |.neg,.v (.int k n)=>.pure (.v (.int k (k.wrap (0 - n))))
  |_,_=>.bad
 |.convert src dst x=>arg a x fun v=>hconvert c src dst v
 |.makeFunc fn fi ca=>argsM a fi.toList fun fi=>argsM a ca.toList fun ca=>.pure (.fn fn fi ca)
 |.makeSlice t x y=>arg a x fun u=>arg a y fun v=>hmakeSlice c s t (isZeroOp x) u v
 |.slice t x lo hi mx=>arg a x fun x=>argO a lo fun lo=>argO a hi fun hi=>argO a mx fun mx=>hslice c t x lo hi mx
 |.fieldAddr t x f=>arg a x fun x=>hfieldAddr c t x f
 |.field t x f=>arg a x fun x=>hfield c t x f
 |.indexAddr t x i=>arg a x fun x=>arg a i fun i=>hindexAddr c t x i
 |.index t x i=>arg a x fun x=>arg a i fun i=>hindex c t x i
 |.extract x i=>arg a x fun
  |.tup l=>match l[i]? with
   |some y=>.pure y
   |none=>.bad
  |_=>.bad
 |.call ⟨.value f,xs,_⟩=>arg a f fun f=>argsM a xs.toList fun xs=>hcall c f xs
 |.call ⟨.builtin b,xs,ts⟩=>argsM a xs.toList fun xs=>hbuiltin c s b ts.toList xs
 |.call ⟨.invoke r m,xs,_⟩=>arg a r fun v=>argsM a xs.toList fun xs=>hinvoke c m xs v
 |.makeInterface t x=>arg a x fun v=>match c.ty t with
  |some ⟨_,_,_,_,.iface⟩=>.bad
  |some ⟨_,_,_,_,.other⟩=>.bad
  |some _=>.pure (.iface t v)
  |none=>.bad
 |.panic x=>arg a x fun
  |.iface t v=>.pan True (.iface t v)
  |_=>.bad
 |.makeMap t none=>hmakeMap c s t
 |.makeMap t (some x)=>arg a x fun
  |.v (.int _ _)=>hmakeMap c s t
  |_=>.bad
 |.lookup t x i ok=>arg a x fun u=>arg a i fun v=>hlookup c t u v ok
 |.insert t m k x=>arg a m fun m=>arg a k fun k=>arg a x fun x=>hmapPut c s t m k x
 |.mapUpdate t m k x=>arg a m fun m=>arg a k fun k=>arg a x fun x=>hmapPut c s t m k x
 |_=>.bad
/-! Code. -/
inductive HExit where
 |normal
 |exit (id:Nat)
 |ret
 |pan (x:HV)
def exitRel (G:Ghost):HExit→Exit→Prop
 |.normal,.normal=>True
 |.exit i,.exit j=>i=j
 |.ret,.ret=>True
 |.pan x,.panic ch=>∃ u,ch=[{ v:=u,recovered:=false}]∧rel G x u
 |_,_=>False
structure SemWp (P:Program) (n:Nat) (code:Code) (Q:HExit→Fr→HS→Prop) (a:Fr) (s:HS):Prop where
 out:∀ G w ra,SRel G s w→FRel G n a ra→wpB P code (fun e ra' w'=>∃ he a' s' G',Q he a' s'∧exitRel G' he e∧FRel G' n a' ra'∧Post s G w s' G' w') ra w
structure Later (p:Prop):Prop where
 out:p
/-- A call: what it comes to. -/
structure CallWp (c:Cx) (f:FuncId) (args:List HV) (s:HS) (K:HV→HS→Prop) (E:HV→HS→Prop):Prop where
 out:HCalls c.P f args s fun
  |.ret x,s'=>K x s'
  |.pan x,s'=>E x s'
/-- Is an operation carried out? -/
def active (ops:Array Oper) (a:Fr) (o:Oper):Option Tag:=
 match o.guard with
 |none=>some .sure
 |some (j,want)=>match ops[j]? with
  |none=>none
  |some oj=>match oj.dst with
   |none=>none
   |some d=>match a.get d with
    |some (.sure,.v (.bool b))=>match want with
     |true=>some (.cond b)
     |false=>some (.cond (!b))
    |some (.cond g,.v (.bool b))=>match want with
     |true=>some (.cond (g && b))
     |false=>some (.cond (g && !b))
    |_=>none
def hput (n:Nat) (dst:Option Tmp) (g:Tag) (x:HV) (a:Fr):Option Fr:=
 match dst with
 |none=>some a
 |some d=>match Nat.blt d n with
  |true=>some ((d,g,x)::a)
  |false=>none
/-- A place of the state. -/
structure Look (s:HS) (r:Nat) (K:Res→Prop):Prop where
 out:∃ x,hget s r=some x∧K x
/-- A call that changes nothing that was there. -/
structure QCall (c:Cx) (f:FuncId) (xs:List HV) (t:HS) (x:HV):Prop where
 out:HCalls c.P f xs t fun e s'=>e = .ret x∧s'=t
structure QAsk (on:Prop) (c:Cx) (f:FuncId) (xs:List HV) (t:HS) (φ:Prop) (K:HV→Prop):Prop where
 out:∃ x,(on→φ∧QCall c f xs t x)∧K x
/-- A call that is carried out if b: one that changes nothing, or two ways. -/
structure CallC (c:Cx) (b:Bool) (f:FuncId) (xs:List HV) (s:HS) (φ:Prop) (Kc:HV→Prop) (on off:Prop):Prop where
 out:QAsk (b=true) c f xs s φ Kc∨Br b (Side φ on) off
/-- What an operation's answer asks. -/
def OpRes.wp (s:HS) (K:HV→HS→Prop) (call:FuncId→List HV→Prop) (pan:HV→Prop):OpRes→Prop
 |.bad=>False
 |.pure x=>K x s
 |.val φ x=>Side φ (K x s)
 |.call φ f xs=>Side φ (call f xs)
 |.pan φ x=>Side φ (pan x)
 |.eff W=>W K
 |.look r k=>Look s r fun x=>OpRes.wp s K call pan (k x)
/-- The same where it is carried out if b. -/
def OpRes.wpc (c:Cx) (s:HS) (b:Bool) (Kc:HV→Prop) (off:Prop) (K:HV→HS→Prop) (call:FuncId→List HV→Prop) (pan:HV→Prop):OpRes→Prop
 |.bad=>False
 |.pure x=>Kc x
 |.val φ x=>Side (b=true→φ) (Kc x)
 |.call φ f xs=>CallC c b f xs s φ Kc (call f xs) off
 |.pan φ x=>Br b (Side φ (pan x)) off
 |.eff W=>Br b (W K) off
 |.look r k=>Look s r fun x=>OpRes.wpc c s b Kc off K call pan (k x)
def opsWp (c:Cx) (n:Nat) (all:Array Oper) (Q:HExit→Fr→HS→Prop):List Oper→Fr→HS→Prop
 |[],a,s=>Q .normal a s
 |o::rest,a,s=>
  match active all a o with
  |none=>False
  |some .sure=>(hop c o.op a s).wp s (fun x s'=>match hput n o.dst .sure x a with
    |none=>False
    |some a'=>opsWp c n all Q rest a' s') (fun f xs=>CallWp c f xs s (fun x s'=>match hput n o.dst .sure x a with
    |none=>False
    |some a'=>opsWp c n all Q rest a' s') (fun x s'=>Q (.pan x) a s')) (fun x=>Q (.pan x) a s)
  |some (.cond b)=>(hop c o.op a s).wpc c s b (fun x=>match hput n o.dst (.cond b) x a with
    |none=>False
    |some a'=>opsWp c n all Q rest a' s) (match hput n o.dst (.cond false) (.v undef) a with
    |none=>False
    |some a'=>opsWp c n all Q rest a' s) (fun x s'=>match hput n o.dst .sure x a with
    |none=>False
    |some a'=>opsWp c n all Q rest a' s') (fun f xs=>CallWp c f xs s (fun x s'=>match hput n o.dst .sure x a with
    |none=>False
    |some a'=>opsWp c n all Q rest a' s') (fun x s'=>Q (.pan x) a s')) (fun x=>Q (.pan x) a s)
def hthen (next:Fr→HS→Prop) (Q:HExit→Fr→HS→Prop):HExit→Fr→HS→Prop
 |.normal,a,s=>Later (next a s)
 |e,a,s=>Q e a s
def hinBlock (id:Nat) (Q:HExit→Fr→HS→Prop):HExit→Fr→HS→Prop
 |.exit j,a,s=>match Nat.beq j id with
  |true=>Q .normal a s
  |false=>Q (.exit j) a s
 |e,a,s=>Q e a s
/-- A region whose order is drawn: see DrawWp. -/
structure DrawReg (P:Program) (n:Nat) (id:Nat) (ops:Array Oper) (Q:HExit→Fr→HS→Prop) (a:Fr) (s:HS):Prop where
 out:SemWp P n (.region id ops true) Q a s
def hwp (c:Cx) (n:Nat):Code→(HExit→Fr→HS→Prop)→Fr→HS→Prop
 |.skip,Q,a,s=>Q .normal a s
 |.region id ops draw,Q,a,s=>match draw with
  |true=>DrawReg c.P n id ops Q a s
  |false=>opsWp c n ops Q ops.toList a s
 |.seq x y,Q,a,s=>hwp c n x (hthen (hwp c n y Q) Q) a s
 |.cond t x y,Q,a,s=>match ev a t with
  |some (.sure,.v (.bool b))=>Br b (hwp c n x Q a s) (hwp c n y Q a s)
  |_=>False
 |.block id b,Q,a,s=>hwp c n b (hinBlock id Q) a s
 |.exit id,Q,a,s=>Q (.exit id) a s
 |.ret,Q,a,s=>Q .ret a s
 |.label _,Q,a,s=>Q .normal a s
 |.loop b,Q,a,s=>SemWp c.P n (.loop b) Q a s
 |code,Q,a,s=>SemWp c.P n code Q a s
end
end Go.Proofs.Hk

namespace Go.Proofs.Hk
noncomputable section
open Go
/-! What an operation's answer says of the machine. -/
def Yields (r:Result Next) (u:Value) (w':World):Prop:=r = .ok (.value u) w'∨(r = .ok .skip w'∧u=undef)
def Gives (s:HS) (G:Ghost) (w:World) (r:Result Next) (x:HV) (s':HS):Prop:=
 ∃ u w' G',Yields r u w'∧rel G' x u∧Post s G w s' G' w'
def ResOK (P:Program) (s:HS) (G:Ghost) (w:World) (r:Result Next):OpRes→Prop
 |.bad=>True
 |.pure x=>Gives s G w r x s
 |.val φ x=>φ→Gives s G w r x s
 |.call φ f xs=>φ→∃ vs:Array Value,r = .ok (.enter f vs) w∧relVs G xs vs.toList
 |.pan φ x=>φ→∃ u,r = .halt (.panic u) w∧rel G x u
 |.eff W=>∀ K,W K→∃ x s',K x s'∧Gives s G w r x s'
 |.look q k=>∀ x,hget s q=some x→ResOK P s G w r (k x)
theorem ResOK.need {P:Program} {s:HS} {G:Ghost} {w:World} {r:Result Next} {φ:Prop} {q:OpRes} (h:φ→ResOK P s G w r q):ResOK P s G w r (q.need φ):=by
 induction q with
 |bad=>trivial
 |pure x=>exact h
 |val ψ x=>exact fun k=>h k.1 k.2
 |call ψ f xs=>exact fun k=>h k.1 k.2
 |pan ψ x=>exact fun k=>h k.1 k.2
 |eff W=>exact fun K hK=>h hK.1 K hK.2
 |look q k ih=>exact fun x hx=>ih x fun hφ=>h hφ x hx
theorem rel_v (G:Ghost) {x:Value} (h:vkd x = .one:=by rfl):rel G (.v x) x:=by
 refine ⟨h.symm,?_⟩
 simp only [relC]
 refine ⟨?_,h⟩
 cases x<;>first|rfl|cases h
theorem relCs_map_v (G:Ghost):∀ (cs:List Value),(∀ u∈cs,vkd u = .one)→relCs G (cs.map .v) cs
 |[],_=>by simp [relCs]
 |u::us,h=>by
  simp only [List.map_cons,relCs]
  refine ⟨u,us,rfl,⟨rfl,?_⟩,relCs_map_v G us fun v hv=>h v (by simp [hv])⟩
  simp only [relC]
  exact ⟨trivial,h u (by simp)⟩
theorem relCs_leaves {G:Ghost} : ∀ {l:List Value},l.all vOne=true→relCs G (l.map .v) l
 |[],_=>by simp only [List.map_nil,relCs]
 |x::l,h=>by
  rw [List.all_cons,Bool.and_eq_true] at h
  simp only [List.map_cons,relCs]
  have hx:vkd x = .one:=by cases x<;>first|rfl|(simp [vOne] at h)
  exact ⟨x,l,rfl,⟨rfl,by simp [relC,hx]⟩,relCs_leaves h.2⟩
theorem evAgg_ok {G:Ghost} {cs:Array Value} {g:Tag} {v:HV} (h:evAgg cs=some (g,v)):tagRel G g v (.agg cs):=by
 unfold evAgg at h
 split at h
 ·rename_i ha
  cases h
  exact ⟨rfl,by simp only [relC,Value.cells];exact relCs_leaves ha⟩
 ·cases h
theorem ev_ok {G:Ghost} {n:Nat} {a:Fr} {ra:Act} (hf:FRel G n a ra) {x:Operand} {g:Tag} {v:HV} (h:ev a x=some (g,v)):tagRel G g v (ra.eval x):=by
 cases x with
 |tmp t=>exact (hf.slots t g v h).2
 |const u=>
  by_cases hu:∃ cs,u = .agg cs
  ·obtain ⟨cs,rfl⟩:=hu
   exact evAgg_ok h
  cases u<;>first|exact absurd ⟨_,rfl⟩ hu|skip
  all_goals simp only [ev,Option.some.injEq,Prod.mk.injEq,reduceCtorEq] at h<;>(obtain ⟨rfl,rfl⟩:=h;exact rel_v G)
 |func f=>
  simp only [ev,Option.some.injEq,Prod.mk.injEq] at h
  obtain ⟨rfl,rfl⟩:=h
  refine ⟨rfl,?_⟩
  simp only [relC,Act.eval,Value.cells]
  exact ⟨#[],#[],rfl,by simp [relVs],by simp [relVs]⟩
 |global g=>simp [ev] at h
theorem arg_ok {P:Program} {s:HS} {G:Ghost} {w:World} {n:Nat} {a:Fr} {ra:Act} (hf:FRel G n a ra) {r:Result Next} {x:Operand} {k:HV→OpRes}
  (h:∀ v,rel G v (ra.eval x)→ResOK P s G w r (k v)):ResOK P s G w r (arg a x k):=by
 unfold arg
 split
 ·trivial
 ·rename_i v e;exact h v (ev_ok hf e)
 ·rename_i b v e;exact ResOK.need fun hb=>h v ((ev_ok hf e).1 hb)
theorem argsM_ok {P:Program} {s:HS} {G:Ghost} {w:World} {n:Nat} {a:Fr} {ra:Act} (hf:FRel G n a ra) {r:Result Next} : ∀ {xs:List Operand} {k:List HV→OpRes},
  (∀ vs,relVs G vs (xs.map ra.eval)→ResOK P s G w r (k vs))→ResOK P s G w r (argsM a xs k)
 |[],k,h=>h [] (by simp [relVs])
 |x::xs,k,h=>arg_ok hf fun v hv=>argsM_ok hf fun vs hvs=>h (v::vs) (by rw [relVs_cons];exact ⟨_,_,rfl,hv,hvs⟩)
theorem argO_ok {P:Program} {s:HS} {G:Ghost} {w:World} {n:Nat} {a:Fr} {ra:Act} (hf:FRel G n a ra) {r:Result Next} {x:Option Operand} {k:Option HV→OpRes}
  (h:∀ v,(match v,x.map ra.eval with|none,none=>True|some v,some u=>rel G v u|_,_=>False)→ResOK P s G w r (k v)):ResOK P s G w r (argO a x k):=by
 cases x with
 |none=>exact h none trivial
 |some x=>exact arg_ok hf fun v hv=>h (some v) hv
theorem gives_pure {s:HS} {G:Ghost} {w:World} {x:HV} {u:Value} (hs:SRel G s w) (h:rel G x u):Gives s G w (.ok (.value u) w) x s:=⟨u,w,G,.inl rfl,h,.refl hs⟩
theorem ResOK.gives {P:Program} {s:HS} {G:Ghost} {w:World} {r:Result Next} {x:HV} {φ:Prop} (h:φ→Gives s G w r x s):ResOK P s G w r (.val φ x):=h
theorem vkd_one {u:Value} (h:vkd u = .one):u.cells.toList=[u]:=by cases u<;>first|rfl|cases h
theorem vkd_oneCell {u:Value} (h:vkd u = .one):u.oneCell'=true:=by cases u<;>first|rfl|cases h
theorem leaf_of {G:Ghost} {x:HV} {u:Value} (h:rel G x u) (hx:x.kd = .one):relC G x [u]∧vkd u = .one:=by
 obtain ⟨h1,h2⟩:=h
 have hu:vkd u = .one:=by rw [←h1,hx]
 rw [vkd_one hu] at h2
 exact ⟨h2,hu⟩
theorem relC_one {G:Ghost} {x:HV} {cs:List Value} (h:relC G x cs) (hx:x.kd = .one):∃ u,cs=[u]∧vkd u = .one:=by
 cases x<;>simp only [relC] at h<;>first|cases hx|skip
 ·exact ⟨_,h⟩
 ·rcases h with ⟨_,e,_⟩|⟨b,o,c,e,_⟩|⟨_,_,a,e⟩<;>exact ⟨_,e,rfl⟩
 ·obtain ⟨b,_,e⟩:=h;exact ⟨_,e,rfl⟩
 ·obtain ⟨b,o,xs,e,_⟩:=h;exact ⟨_,e,rfl⟩
 ·obtain ⟨a,b,e,_⟩:=h;exact ⟨_,e,rfl⟩
 ·obtain ⟨b,_,e⟩:=h;exact ⟨_,e,rfl⟩
 ·obtain ⟨b,_,e⟩:=h;exact ⟨_,e,rfl⟩
 ·obtain ⟨u,e,_⟩:=h;exact ⟨_,e,rfl⟩
 ·obtain ⟨b,_,e⟩:=h;exact ⟨_,e,rfl⟩
 ·obtain ⟨b,c,_,_,_,e⟩:=h;exact ⟨_,e,rfl⟩
theorem rel_leaf {G:Ghost} {x:HV} {u:Value} (h:relC G x [u]) (hx:x.kd = .one):rel G x u:=by
 obtain ⟨u',e,hu⟩:=relC_one h hx
 simp only [List.cons.injEq,and_true] at e
 subst e
 exact ⟨by rw [hx,hu],by rw [vkd_one hu];exact h⟩
theorem rel_v_eq {G:Ghost} {x u:Value} (h:rel G (.v x) u):u=x:=by
 obtain ⟨h1,h2⟩:=leaf_of h rfl
 simp only [relC] at h1
 simpa using h1.1
theorem rel_int {G:Ghost} {k:IntKind} {n:Int} {u:Value} (h:rel G (.v (.int k n)) u):u = .int k n:=rel_v_eq h
theorem rel_bool {G:Ghost} {b:Bool} {u:Value} (h:rel G (.v (.bool b)) u):u = .bool b:=rel_v_eq h
section
variable (c:Cx) (s:HS) (G:Ghost) (w:World)
theorem rel_agg_inv4 {G:Ghost} {l:List HV} {u:Value} (h:rel G (.agg l) u):∃ us:Array Value,u = .agg us∧relCs G l us.toList:=by
 obtain ⟨h1,h2⟩:=h
 cases u<;>first|cases h1|skip
 rename_i cs
 exact ⟨cs,rfl,by simpa [relC,Value.cells] using h2⟩
theorem binOp_ok (hs:SRel G s w) (op:BinOp) (t:TypeId) (xo yo:Operand) (x y:HV) (u v:Value) (hx:rel G x u) (hy:rel G y v) :
  ResOK c.P s G w ((do pure (Next.value (←(do eqGuard op t xo yo u v;binOp op t u v))):Sem Next).run c.P w) (hbin op x y):=by
 unfold hbin
 split
 ·rename_i k a k' b
  have hu:=rel_v_eq hx
  have hv:=rel_v_eq hy
  subst hu hv
  split
  ·intro hb
   have e:¬ b < 0:=by omega
   exact ⟨_,w,G,.inl (by simp [eqGuard,binOp,Op.shift,e]),rel_v G,.refl hs⟩
  ·intro hb
   have e:¬ b < 0:=by omega
   exact ⟨_,w,G,.inl (by simp [eqGuard,binOp,Op.shift,e]),rel_v G,.refl hs⟩
  ·rename_i h1 h2
   split
   ·rename_i hk
    have hk:=kindEq_eq hk
    subst hk
    cases op<;>simp only [hint]<;>first|trivial|skip
    all_goals first
     |(intro hb;exact ⟨_,w,G,.inl (by simp [eqGuard,binOp,Op.intDiv,hb]),rel_v G,.refl hs⟩)
     |exact ⟨_,w,G,.inl (by simp [eqGuard,binOp,Op.intArith,Op.intBits,Op.intCmp]),rel_v G,.refl hs⟩
   ·trivial
 ·rename_i a b
  have hu:=rel_v_eq hx
  have hv:=rel_v_eq hy
  subst hu hv
  cases op<;>simp only [hstr]<;>first|trivial|skip
  case add=>
   intro hb
   have e:¬ ((a.size+b.size:Nat):Int) > IntKind.i64.max:=by simp [IntKind.max,IntKind.signed,IntKind.bits];omega
   have e2:¬ ((a.size:Int)+(b.size:Int) > IntKind.i64.max):=by simpa using e
   exact ⟨_,w,G,.inl (by simp [eqGuard,binOp,Op.stringOp,e2];omega),rel_v G,.refl hs⟩
  all_goals exact ⟨_,w,G,.inl (by simp [eqGuard,binOp,Op.stringOp,strEq]),rel_v G,.refl hs⟩
 ·trivial
theorem relCs_get4 {G:Ghost} : ∀ {l:List HV} {us:List Value},relCs G l us→∀ (o:Nat) (x:HV),l[o]? = some x→∃ u,us[o]? = some u∧x.kd = .one∧relC G x [u]
 |[],_,_,o,x,e=>by simp at e
 |y::l,us,h,o,x,e=>by
  simp only [relCs] at h
  obtain ⟨u,us',rfl,h1,h2⟩:=h
  cases o with
  |zero=>
   simp only [List.getElem?_cons_zero,Option.some.injEq] at e
   subst e
   exact ⟨u,by simp,h1⟩
  |succ o=>
   obtain ⟨u',e1,h3⟩:=relCs_get4 h2 o x (by simpa using e)
   exact ⟨u',by simpa using e1,h3⟩
theorem leaf_v {G:Ghost} {x u:Value} (h:relC G (.v x) [u]):u=x:=by
 simp only [relC] at h
 simpa using h.1
theorem run_isAgg_no {P:Program} {w:World} {t:TypeId} {u:TypeDesc} (hu:P.underlying t=some u) {k:PK} (hk:pkOf u k=true):(isAgg t).run P w = .ok false w:=by
 unfold Go.isAgg
 rw [Sem.run_bind,run_underlying hu,Result.andThen_ok]
 cases u<;>cases k<;>first|rfl|simp [pkOf] at hk
theorem run_eqLeaf {P:Program} {w:World} {d:Nat} {t:TypeId} {u:TypeDesc} (hu:P.underlying t=some u) {k:PK} (hk:pkOf u k=true) {x y:HV} {r:Bool} (hr:leafEqV k x y=some r) {a b:Value} (ha:relC G x [a]) (hb:relC G y [b]) :
  (Op.equalIn (d+1) t a b).run P w = .ok r w:=by
 unfold leafEqV at hr
 split at hr
 ·rename_i k1 a' k2 b'
  split at hr
  ·rename_i hkk
   have:=kindEq_eq hkk
   subst this
   cases hr
   rw [leaf_v ha,leaf_v hb]
   cases u<;>first|exact run_equalIn_int w d t _ _ _ _ hu|simp [pkOf] at hk
  ·cases hr
 ·cases hr
  rw [leaf_v ha,leaf_v hb]
  cases u<;>first|exact run_equalIn_bool' w d t _ _ hu|simp [pkOf] at hk
 ·cases hr
  rw [leaf_v ha,leaf_v hb]
  cases u<;>first|exact run_equalIn_string w d t _ _ hu|simp [pkOf] at hk
 ·cases hr
theorem run_part {P:Program} {w:World} {t:TypeId} {cs:Array Value} {o:Nat} {v:Value} (ht:(isAgg t).run P w = .ok false w) (hv:cs.toList[o]? = some v):(Go.part t cs o).run P w = .ok v w:=by
 unfold Go.part
 rw [Sem.run_bind,ht,Result.andThen_ok]
 have:cs[o]? = some v:=by simpa using hv
 simp [this]
theorem run_eqFields {P:Program} {w:World} {d:Nat} {xs ys:Array Value} {l l':List HV} (hx:relCs G l xs.toList) (hy:relCs G l' ys.toList) :
  ∀ {fs:List Field} {e:List (Nat × PK)} {r:Bool},eqFsB P fs e=true→fieldsV l l' e=some r→(Op.eqFields (d+1) xs ys fs).run P w = .ok r w
 |[],[],r,_,h=>by
  simp only [fieldsV,Option.some.injEq] at h
  subst h
  rfl
 |[],_::_,_,h,_=>by cases h
 |_::_,[],_,h,_=>by cases h
 |f::fs,(o,k)::e,r,h,hr=>by
  simp only [eqFsB,Bool.and_eq_true,bne_iff_ne,beq_iff_eq] at h
  obtain ⟨⟨⟨h1,h2⟩,h3⟩,h4⟩:=h
  cases hu:P.underlying f.type with
  |none=>rw [hu] at h3;cases h3
  |some u=>
   rw [hu] at h3
   have h3:pkOf u k=true:=h3
   simp only [fieldsV] at hr
   split at hr
   ·rename_i x y ex ey
    split at hr
    ·rename_i b1 b2 hb1 hb2
     cases hr
     obtain ⟨a,ea,_,ra⟩:=relCs_get4 hx o x ex
     obtain ⟨b,eb,_,rb⟩:=relCs_get4 hy o y ey
     have hag:=run_isAgg_no (w:=w) hu h3
     have key:∀ (K:Sem Bool),(do
       let a ←Go.part f.type xs f.offset
       let b ←Go.part f.type ys f.offset
       let r ←Op.equalIn (d+1) f.type a b
       if (!r)=true then pure false else K:Sem Bool).run P w=if (!b1)=true then .ok false w else K.run P w:=by
      intro K
      rw [Sem.run_bind,h2,run_part hag ea,Result.andThen_ok,Sem.run_bind,run_part hag eb,Result.andThen_ok,Sem.run_bind,run_eqLeaf G hu h3 hb1 ra rb,Result.andThen_ok]
      cases b1<;>rfl
     simp only [Op.eqFields]
     rw [if_pos h1,key,run_eqFields hx hy h4 hb2]
     cases b1<;>rfl
    ·cases hr
   ·cases hr
theorem binT_ok (hs:SRel G s w) (op:BinOp) (t:TypeId) (xo yo:Operand) (x y:HV) (u v:Value) (hx:rel G x u) (hy:rel G y v) :
  ResOK c.P s G w ((do pure (Next.value (←(do eqGuard op t xo yo u v;binOp op t u v))):Sem Next).run c.P w) (hbinT c s op t x y):=by
 have nilOK:∀ (e:Prop) (a:Option Addr) (n m:Nat),u = .slice a n m→v = .slice none 0 0→(a=none→e)→ResOK c.P s G w ((do pure (Next.value (←(do eqGuard op t xo yo u v;binOp op t u v))):Sem Next).run c.P w) (hnil c s op t e):=by
  rintro e a n m rfl rfl he
  unfold hnil
  split
  ·trivial
  ·rename_i el hel
   have hud:c.P.underlying t=some (.slice el):=by
    unfold sliceElemT at hel
    split at hel
    ·rename_i e' hd
     cases hel
     obtain ⟨i,ud,_,hud,_,_,_,_,hsh,_⟩:=c.ty_ok _ _ hd
     cases ud<;>simp only [shOK] at hsh
     subst hsh
     exact hud
    ·cases hel
   have eq:(Op.equalIn 10000 t (.slice a n m) (.slice none 0 0)).run c.P w = .ok a.isNone w:=run_equalIn_slice_nil (w:=w) (d:=9999) (t:=t) (e:=el) a n m hud
   split
   ·intro K hK
    refine ⟨_,_,hK a.isNone (fun h=>he (by simpa using h)),_,w,G,.inl ?_,rel_v G,.refl hs⟩
    simp [eqGuard,binOp,Op.equal,Op.maxDepth,eq]
   ·intro K hK
    refine ⟨_,_,hK (!a.isNone) (fun h=>he (by simpa using h)),_,w,G,.inl ?_,rel_v G,.refl hs⟩
    simp [eqGuard,binOp,Op.equal,Op.maxDepth,eq]
   ·trivial
 unfold hbinT
 split
 ·rename_i tk sz l
  have hv:=rel_v_eq hy
  obtain ⟨h1,_⟩:=leaf_of hx rfl
  simp only [relC] at h1
  rcases h1 with ⟨e0,e1,_⟩|⟨b,o,cp,e1,_⟩|⟨e0,_,a,e1⟩
  ·exact nilOK _ _ _ _ (by simpa using e1) hv (fun _=>e0)
  ·exact nilOK _ _ _ _ (by simpa using e1) hv (fun h=>by cases h)
  ·exact nilOK _ _ _ _ (by simpa using e1) hv (fun _=>e0)
 ·have hv:=rel_v_eq hy
  obtain ⟨h1,_⟩:=leaf_of hx rfl
  simp only [relC] at h1
  obtain ⟨b,_,e1⟩:=h1
  exact nilOK _ _ _ _ (by simpa using e1) hv (fun h=>by cases h)
 ·exact nilOK _ _ _ _ (rel_v_eq hx) (rel_v_eq hy) (fun _=>trivial)
 ·rename_i xs ys
  unfold hstructEq
  split
  ·trivial
  ·rename_i l hl
   split
   ·trivial
   ·rename_i r hr
    obtain ⟨h1,h2,fs,h3,h4⟩:=c.eq_ok t l hl
    obtain ⟨us,rfl,hus⟩:=rel_agg_inv4 hx
    obtain ⟨vs,rfl,hvs⟩:=rel_agg_inv4 hy
    have hf:c.P.fieldsOf t=fs:=by unfold Program.fieldsOf;rw [h3]
    have e:(Op.equalIn 10000 t (.agg us) (.agg vs)).run c.P w = .ok r w:=by
     rw [run_equalIn_agg w 9999 t us vs (by rw [hf];exact h3) h1,hf]
     exact run_eqFields (d:=9998) G hus hvs h4 hr
    cases op<;>first|trivial|skip
    all_goals refine ⟨_,w,G,.inl ?_,rel_v G,.refl hs⟩
    ·simp only [Sem.run_bind,run_eqGuard_agg w .eql t xo yo us vs h2,Result.andThen_ok,run_eql_struct,e]
     rfl
    ·simp only [Sem.run_bind,run_eqGuard_agg w .neq t xo yo us vs h2,Result.andThen_ok,run_neq_struct,e]
     rfl
 ·rename_i a b
  have hu:=rel_v_eq hx
  have hv:=rel_v_eq hy
  subst hu hv
  split
  ·rename_i e
   obtain ⟨i,ud,_,hud,_,_,_,_,hsh,_⟩:=c.ty_ok _ _ e
   have hud:c.P.underlying t=some .bool:=by
    cases ud<;>simp only [shOK] at hsh
    exact hud
   have eq:(Op.equalIn 10000 t (.bool a) (.bool b)).run c.P w = .ok (a == b) w:=run_equalIn_bool' w 9999 t a b hud
   cases op<;>first|trivial|skip
   all_goals refine ⟨_,w,G,.inl ?_,rel_v G,.refl hs⟩
   ·simp [eqGuard,binOp,Op.equal,Op.maxDepth,eq]
   ·simp [eqGuard,binOp,Op.equal,Op.maxDepth,eq]
    cases a<;>cases b<;>rfl
  ·trivial
 ·exact binOp_ok c s G w hs op t xo yo x y u v hx hy
end
end
end Go.Proofs.Hk

namespace Go.Proofs.Hk
noncomputable section
open Go
theorem relCs_length {G:Ghost} : ∀ {l:List HV} {us:List Value},relCs G l us→us.length=l.length
 |[],us,h=>by simp only [relCs] at h;simp [h]
 |x::xs,us,h=>by
  simp only [relCs] at h
  obtain ⟨u,us',rfl,_,h⟩:=h
  simp [relCs_length h]
theorem relCs_get {G:Ghost} : ∀ {l:List HV} {us:List Value},relCs G l us→∀ (i:Nat) (x:HV),l[i]? = some x→∃ u,us[i]? = some u∧x.kd = .one∧relC G x [u]
 |[],us,h,i,x,e=>by simp at e
 |y::ys,us,h,i,x,e=>by
  simp only [relCs] at h
  obtain ⟨u,us',rfl,⟨h0,h1⟩,h2⟩:=h
  cases i with
  |zero=>simp only [List.getElem?_cons_zero,Option.some.injEq] at e;subst e;exact ⟨u,by simp,h0,h1⟩
  |succ i=>simpa using relCs_get h2 i x (by simpa using e)
theorem relCs_one {G:Ghost} : ∀ {l:List HV} {us:List Value},relCs G l us→∀ u∈us,vkd u = .one
 |[],us,h,u,hu=>by simp only [relCs] at h;simp [h] at hu
 |x::xs,us,h,u,hu=>by
  simp only [relCs] at h
  obtain ⟨v,us',rfl,⟨h0,h1⟩,h2⟩:=h
  rcases List.mem_cons.1 hu with rfl|hu
  ·obtain ⟨u',e,hk⟩:=relC_one h1 h0
   simp only [List.cons.injEq,and_true] at e
   rw [e];exact hk
  ·exact relCs_one h2 u hu
theorem relCs_append {G:Ghost} : ∀ {l m:List HV} {us vs:List Value},relCs G l us→relCs G m vs→relCs G (l ++ m) (us ++ vs)
 |[],m,us,vs,h,k=>by simp only [relCs] at h;subst h;exact k
 |x::xs,m,us,vs,h,k=>by
  simp only [relCs] at h
  obtain ⟨u,us',rfl,h1,h2⟩:=h
  simp only [List.cons_append,relCs]
  exact ⟨u,us' ++ vs,rfl,h1,relCs_append h2 k⟩
theorem relCs_take {G:Ghost} : ∀ {l:List HV} {us:List Value} (k:Nat),relCs G l us→relCs G (l.take k) (us.take k)
 |[],us,k,h=>by simp only [relCs] at h;subst h;simp [relCs]
 |x::xs,us,0,h=>by simp [relCs]
 |x::xs,us,k+1,h=>by
  simp only [relCs] at h
  obtain ⟨u,us',rfl,h1,h2⟩:=h
  simp only [List.take_succ_cons,relCs]
  exact ⟨u,_,rfl,h1,relCs_take k h2⟩
theorem relCs_drop {G:Ghost} : ∀ {l:List HV} {us:List Value} (k:Nat),relCs G l us→relCs G (l.drop k) (us.drop k)
 |[],us,k,h=>by simp only [relCs] at h;subst h;simp [relCs]
 |x::xs,us,0,h=>by simpa using h
 |x::xs,us,k+1,h=>by
  simp only [relCs] at h
  obtain ⟨u,us',rfl,h1,h2⟩:=h
  simpa using relCs_drop k h2
/-- The cells of a value that is no tuple. -/
theorem rel_cells {G:Ghost} {x:HV} {u:Value} (h:rel G x u) (hx:x.kd≠.tup):relCs G x.cells u.cells.toList:=by
 obtain ⟨h1,h2⟩:=h
 by_cases ho:x.kd = .one
 ·obtain ⟨v,e,hv⟩:=relC_one h2 ho
  have:x.cells=[x]:=by cases x<;>first|rfl|cases ho
  rw [this,e]
  simp only [relCs]
  exact ⟨v,[],rfl,⟨ho,by rw [←e];exact h2⟩,rfl⟩
 ·cases x<;>first|exact absurd rfl ho|exact absurd rfl hx|skip
  simpa only [relC,HV.cells] using h2
theorem rel_agg {G:Ghost} {l:List HV} {us:List Value} (h:relCs G l us):rel G (.agg l) (.agg us.toArray):=⟨rfl,by simpa [relC,Value.cells] using h⟩
theorem rel_agg_inv {G:Ghost} {l:List HV} {u:Value} (h:rel G (.agg l) u):∃ us:Array Value,u = .agg us∧relCs G l us.toList:=by
 obtain ⟨h1,h2⟩:=h
 cases u<;>first|cases h1|skip
 rename_i cs
 exact ⟨cs,rfl,by simpa [relC,Value.cells] using h2⟩
/-! Types. -/
section
variable {P:Program} {t:TypeId} {d:TyD} {w:World}
theorem TyOK.isAgg (h:TyOK P t d):(isAgg t).run P w = .ok d.isAgg w:=by
 obtain ⟨i,u,hi,hu,h1,h2,h3,h4,h5,_⟩:=h
 unfold Go.isAgg
 rw [Sem.run_bind,run_underlying hu,Result.andThen_ok]
 rw [←h4]
 cases u<;>rfl
theorem TyOK.sizeOf (h:TyOK P t d):(sizeOf t).run P w = .ok d.size w:=by
 obtain ⟨i,u,hi,hu,h1,_⟩:=h
 rw [run_sizeOf _ hi]
 simp [Program.cellsOf,hi,h1]
theorem TyOK.info (h:TyOK P t d):∃ i,(typeInfo t).run P w = .ok i w∧i.size=d.size∧i.bytes=d.bytes∧i.zero=some d.zero:=by
 obtain ⟨i,u,hi,hu,h1,h2,h3,_⟩:=h
 exact ⟨i,run_typeInfo _ hi,h1,h2,h3⟩
theorem TyOK.zero (h:TyOK P t d):(zeroValue t).run P w = .ok d.zero w:=by
 obtain ⟨i,hi,_,_,hz⟩:=h.info (w:=w)
 unfold zeroValue
 rw [Sem.run_bind,hi,Result.andThen_ok]
 simp [hz]
theorem TyOK.zsize (h:TyOK P t d):d.zero.cells.size=d.size:=by
 obtain ⟨i,u,hi,hu,h1,h2,h3,h4,h5,h6⟩:=h
 exact h6
theorem TyOK.und (h:TyOK P t d):∃ u,(underlying t).run P w = .ok u w∧shOK P u d.sh∧descAgg u=d.isAgg:=by
 obtain ⟨i,u,hi,hu,h1,h2,h3,h4,h5,_⟩:=h
 exact ⟨u,run_underlying hu w,h5,h4⟩
theorem TyOK.slice {e:TypeId} (h:TyOK P t d) (hs:d.sh = .slice e):(underlying t).run P w = .ok (.slice e) w:=by
 obtain ⟨u,hu,hsh,_⟩:=h.und (w:=w)
 rw [hs] at hsh
 cases u<;>simp only [shOK] at hsh
 subst hsh
 exact hu
theorem TyOK.string (h:TyOK P t d) (hs:d.sh = .string):(underlying t).run P w = .ok .string w:=by
 obtain ⟨u,hu,hsh,_⟩:=h.und (w:=w)
 rw [hs] at hsh
 cases u<;>simp only [shOK] at hsh
 exact hu
theorem TyOK.int {k:IntKind} (h:TyOK P t d) (hs:d.sh = .int k):(underlying t).run P w = .ok (.int k) w:=by
 obtain ⟨u,hu,hsh,_⟩:=h.und (w:=w)
 rw [hs] at hsh
 cases u<;>simp only [shOK] at hsh
 subst hsh
 exact hu
theorem TyOK.struct {l:List (Nat × Nat × Bool)} {eq:Bool} (h:TyOK P t d) (hs:d.sh = .struct l eq):∃ fs,(underlying t).run P w = .ok (.struct fs) w∧fieldsOK P fs.toList l∧(eq=true→fieldsEq P fs.toList=true):=by
 obtain ⟨u,hu,hsh,_⟩:=h.und (w:=w)
 rw [hs] at hsh
 cases u<;>simp only [shOK] at hsh
 exact ⟨_,hu,hsh⟩
end
theorem fieldsOK_get {P:Program} : ∀ {fs:List Field} {l:List (Nat × Nat × Bool)},fieldsOK P fs l→∀ (i o s:Nat) (b:Bool),l[i]? = some (o,s,b)→
  ∃ f:Field,fs[i]? = some f∧f.offset=o∧∀ w,(sizeOf f.type).run P w = .ok s w∧(isAgg f.type).run P w = .ok b w
 |[],l,h,i,o,s,b,e=>by simp only [fieldsOK] at h;subst h;simp at e
 |f::fs,l,h,i,o,s,b,e=>by
  simp only [fieldsOK] at h
  obtain ⟨o',s',b',l',rfl,ho,⟨inf,u,hi,hu,hs,hb⟩,h2⟩:=h
  cases i with
  |zero=>
   simp only [List.getElem?_cons_zero,Option.some.injEq,Prod.mk.injEq] at e
   obtain ⟨rfl,rfl,rfl⟩:=e
   refine ⟨f,by simp,ho,fun w=>⟨by rw [run_sizeOf _ hi];simp [Program.cellsOf,hi,hs],?_⟩⟩
   unfold Go.isAgg
   rw [Sem.run_bind,run_underlying hu,Result.andThen_ok,←hb]
   cases u<;>rfl
  |succ i=>simpa using fieldsOK_get h2 i o s b (by simpa using e)
theorem add_plain (b o j:Nat):(⟨b,o,none⟩:Addr).add j=⟨b,o+j,none⟩:=by unfold Addr.add;split<;>simp_all
/-! Loads. -/
theorem run_cells {P:Program} {w:World} {b o:Nat} {xs:List Value} (h:∀ j,j < xs.length→w.cell? ⟨b,o+j,none⟩=xs[j]?):(loadCells ⟨b,o,none⟩ xs.length).run P w = .ok xs.toArray w:=
 run_loadCells_list w ⟨b,o,none⟩ xs fun j v e=>by
  rw [add_plain,h j (List.getElem?_eq_some_iff.1 e).1,e]
theorem run_loadVar_agg {P:Program} {t:TypeId} {d:TyD} {w:World} {b o:Nat} {xs:List Value} (ht:TyOK P t d) (ha:d.isAgg=true) (hl:xs.length=d.size) (h:∀ j,j < xs.length→w.cell? ⟨b,o+j,none⟩=xs[j]?) :
  (loadVar t ⟨b,o,none⟩).run P w = .ok (.agg xs.toArray) w:=by
 unfold loadVar
 rw [Sem.run_bind,ht.isAgg,Result.andThen_ok,ha]
 simp only [if_true]
 rw [Sem.run_bind,ht.sizeOf,Result.andThen_ok,Sem.run_bind,←hl,run_cells h]
 rfl
theorem run_loadVar_one {P:Program} {t:TypeId} {d:TyD} {w:World} {b o:Nat} {u:Value} (ht:TyOK P t d) (ha:d.isAgg=false) (h:w.cell? ⟨b,o,none⟩=some u) :
  (loadVar t ⟨b,o,none⟩).run P w = .ok u w:=by
 unfold loadVar
 rw [Sem.run_bind,ht.isAgg,Result.andThen_ok,ha]
 simp only [Bool.false_eq_true,if_false]
 rw [run_load]
 simp [h]
theorem relC_length {G:Ghost} {x:HV} {cs:List Value} (h:relC G x cs) (hx:x.kd≠.tup):cs.length=x.cells.length:=by
 by_cases ho:x.kd = .one
 ·obtain ⟨u,rfl,_⟩:=relC_one h ho
  have:x.cells=[x]:=by cases x<;>first|rfl|cases ho
  rw [this];rfl
 ·cases x<;>first|exact absurd rfl ho|exact absurd rfl hx|skip
  simp only [relC] at h
  exact relCs_length h
theorem rel_of_cells {G:Ghost} {x:HV} {cs:List Value} (h:relC G x cs) (hx:x.kd = .agg):rel G x (.agg cs.toArray):=by
 cases x<;>first|cases hx|skip
 simp only [relC] at h
 exact rel_agg h
theorem hget_mem {s:HS} {r:Nat} {x:Res} (h:hget s r=some x):(r,x)∈s:=by
 induction s with
 |nil=>simp [hget_nil] at h
 |cons p s ih=>
  obtain ⟨q,y⟩:=p
  simp only [hget_cons] at h
  split at h
  ·rename_i e;subst e;simp only [Option.some.injEq] at h;subst h;exact List.mem_cons_self
  ·exact List.mem_cons_of_mem _ (ih h)
theorem rel_ptr {G:Ghost} {r off:Nat} {u:Value} (h:rel G (.ptr r off) u):∃ b,G.om r=some b∧u = .pointer (some ⟨b,off,none⟩):=by
 obtain ⟨h1,_⟩:=leaf_of h rfl
 simp only [relC] at h1
 obtain ⟨b,e,hb⟩:=h1
 exact ⟨b,e,by simpa using hb⟩
theorem ptr_rel {G:Ghost} {r off b:Nat} (h:G.om r=some b):rel G (.ptr r off) (.pointer (some ⟨b,off,none⟩)):=
 rel_leaf (by simp only [relC];exact ⟨b,h,rfl⟩) rfl
theorem load_ok (c:Cx) {s:HS} {G:Ghost} {w:World} (hs:SRel G s w) (t:TypeId) {p:HV} {u:Value} (hp:rel G p u) :
  ResOK c.P s G w ((do pure (Next.value (←Instr.loadAt t u)):Sem Next).run c.P w) (hload c t p):=by
 have key:∀ {a:Addr} {x:HV} {v:Value},u = .pointer (some a)→(loadVar t a).run c.P w = .ok v w→rel G x v→Gives s G w ((do pure (Next.value (←Instr.loadAt t u)):Sem Next).run c.P w) x s:=by
  intro a x v e h hx
  subst e
  exact ⟨v,w,G,.inl (by simp [Instr.loadAt,Instr.sureAddr,h]),hx,.refl hs⟩
 unfold hload
 split
 ·trivial
 ·rename_i d hd
  have ht:=c.ty_ok t d hd
  split
  ·rename_i x
   obtain ⟨h1,_⟩:=leaf_of hp rfl
   simp only [relC] at h1
   obtain ⟨b,o,xs,e,hk,hK,hx⟩:=h1
   have e:u = .pointer (some ⟨b,o,none⟩):=by simpa using e
   have hcell:∀ j,j < xs.length→w.cell? ⟨b,o+j,none⟩=xs[j]?:=fun j hj=>by
    have:=hK j hj
    rw [List.getElem?_eq_getElem hj] at this ⊢
    exact hs.kw _ _ _ this
   split
   ·rename_i ha
    intro hb
    simp only [Bool.and_eq_true,Nat.beq_eq] at hb
    obtain ⟨hkd,hl⟩:=hb
    have hkd:=kdAgg_eq hkd
    exact key e (run_loadVar_agg ht ha (by rw [relC_length hx hk,hl]) hcell) (rel_of_cells hx hkd)
   ·rename_i ha
    intro hkd
    have hkd:=kdOne_eq hkd
    obtain ⟨v,rfl,hv⟩:=relC_one hx hkd
    exact key e (run_loadVar_one ht ha (by simpa using hcell 0 (by simp))) (rel_leaf hx hkd)
  ·rename_i r off
   obtain ⟨b,ho,e⟩:=rel_ptr hp
   intro rx hg
   cases rx with
   |cells cs t'=>
    have hh:=hs.holds r _ (hget_mem hg)
    obtain ⟨b',vs,ho',ro,hb,hcs,hK⟩:=hh
    rw [ho] at ho'
    cases ho'
    simp only []
    split
    ·rename_i ha
     split
     case h_2=>trivial
     rename_i hl
     have hl:off+d.size≤cs.length:=Nat.le_of_ble_eq_true hl
     rw [forceL_eq]
     have hlen:=relCs_length hcs
     have hseg:=relCs_take d.size (relCs_drop off hcs)
     refine key e (run_loadVar_agg (xs:=(vs.toList.drop off).take d.size) ht ha ?_ ?_) (rel_agg hseg)
     ·simp only [List.length_take,List.length_drop];omega
     ·intro j hj
      have hj':j < d.size:=by simp only [List.length_take] at hj;omega
      simp only [World.cell?,hb,Option.isSome_none,Bool.false_eq_true,if_false]
      rw [List.getElem?_take_of_lt hj',List.getElem?_drop,Array.getElem?_toList]
    ·rename_i ha
     split
     ·rename_i x hx
      intro hkd
      have hkd:=kdOne_eq hkd
      obtain ⟨v,hv,_,hr⟩:=relCs_get hcs off x hx
      exact key e (run_loadVar_one ht ha (by simp only [World.cell?,hb,Option.isSome_none,Bool.false_eq_true,if_false];rw [←Array.getElem?_toList];exact hv)) (rel_leaf hr hkd)
     ·trivial
   |map es=>trivial
   |tok n=>trivial
   |void=>trivial
   |loop L=>trivial
   |row cs' sz' t''=>trivial
  ·trivial
end
end Go.Proofs.Hk

namespace Go.Proofs.Hk
noncomputable section
open Go
/-! New blocks. -/
def World.pushed (w:World) (o:Obj):World:={ w with heap:=w.heap.push o}
theorem pushed_lt (w:World) (o:Obj) {b:Nat} (h:b < w.heap.size):(World.pushed w o).heap[b]? = w.heap[b]?:=by
 simp only [World.pushed,Array.getElem?_push]
 rw [if_neg (by omega)]
theorem pushed_new (w:World) (o:Obj):(World.pushed w o).heap[w.heap.size]? = some o:=by
 show (w.heap.push o)[w.heap.size]? = some o
 exact Array.getElem?_push_size
theorem pushed_cell (w:World) (o:Obj) {b off:Nat} {v:Value} (h:w.cell? ⟨b,off,none⟩=some v):(World.pushed w o).cell? ⟨b,off,none⟩=some v:=by
 have hb:b < w.heap.size:=World.block_lt_of_cell? w ⟨b,off,none⟩ h
 simp only [World.cell?] at h ⊢
 rw [pushed_lt w o hb];exact h
theorem SRel.K_lt {G:Ghost} {s:HS} {w:World} (h:SRel G s w) {b o:Nat} {v:Value} (e:G.K b o=some v):b < w.heap.size:=World.block_lt_of_cell? w ⟨b,o,none⟩ (h.kw b o v e)
theorem SRel.K_new {G:Ghost} {s:HS} {w:World} (h:SRel G s w) {b:Nat} (hb:w.heap.size≤b) (o:Nat):G.K b o=none:=by
 cases e:G.K b o with
 |none=>rfl
 |some v=>have:=h.K_lt e;omega
theorem SRel.role_new {G:Ghost} {s:HS} {w:World} (h:SRel G s w) {b:Nat} (hb:w.heap.size≤b):G.role b=none:=by
 cases e:G.role b with
 |none=>rfl
 |some r=>have:=(h.role b r e).1;omega
def Res.big:Res→Bool
 |.loop _=>true
 |.row _ _ _=>true
 |_=>false
theorem holds.move {G G':Ghost} {w w':World} {q:Nat} {y:Res} (hy:y.big=true) (le:G.Le0 G') (hb:∀ b,G.role b=some q→w'.heap[b]? = w.heap[b]?∧G'.role b=some q∧∀ o,G'.K b o=G.K b o) (k:holds G w q y):holds G' w' q y:=by
 cases y with
 |cells cs t=>cases hy
 |map es=>cases hy
 |tok n=>cases hy
 |void=>cases hy
 |loop L=>
  obtain ⟨b,D,fid,tmps,bD,e,ro,hh,hc,hD,hd,hK,hK'⟩:=k
  obtain ⟨h1,h2,h3⟩:=hb b ro
  obtain ⟨g1,g2,g3⟩:=hb D hD
  exact ⟨b,D,fid,tmps,bD,le.om q b e,h2,h1.trans hh,hc.mono0 le,g2,g1.trans hd,fun o=>(h3 o).trans (hK o),fun o=>(g3 o).trans (hK' o)⟩
 |row cs sz t=>
  obtain ⟨b,c,vs,e,e',ro,hh,q1,q2,hc,hK⟩:=k
  obtain ⟨h1,h2,h3⟩:=hb b ro
  exact ⟨b,c,vs,le.om q b e,le.om _ c e',h2,h1.trans hh,q1,q2,relCs.mono0 le _ _ hc,fun o=>(h3 o).trans (hK o)⟩
theorem holds.agree1 {s:HS} {G G':Ghost} {w w':World} (h:SRel G s w) (le:G.Le G')
  (hb:∀ b,b < w.heap.size→w'.heap[b]? = w.heap[b]?∧G'.role b=G.role b∧∀ o,G'.K b o=G.K b o)
  (ht:∀ r tp,G.top r=some tp→G'.top r=some tp) {r:Nat} {x:Res} (hv:r < G.lim→G.om r=none→G.top r=none→(∀ b,G.role b≠some r)→r < G'.lim∧G'.om r=none∧G'.top r=none∧∀ b,G'.role b≠some r) (k:holds G w r x):holds G' w' r x:=by
 cases x with
 |cells cs t=>
  obtain ⟨b,vs,e,ro,hh,hc,hK⟩:=k
  obtain ⟨h1,h2,h3⟩:=hb b (h.role b r ro).1
  exact ⟨b,vs,le.om r b e,h2.trans ro,h1.trans hh,relCs.mono le _ _ hc,fun o=>(h3 o).trans (hK o)⟩
 |map es=>
  obtain ⟨b,ents,cl,e,ro,hh,hc⟩:=k
  obtain ⟨h1,h2,h3⟩:=hb b (h.role b r ro).1
  exact ⟨b,ents,cl,le.om r b e,h2.trans ro,h1.trans hh,relMap.mono le _ _ hc⟩
 |tok n=>
  obtain ⟨tp,e,hn,hq⟩:=k
  refine ⟨tp,ht r tp e,hn,fun hlt=>?_⟩
  obtain ⟨ro,vs,t,hh,hce,hK⟩:=hq hlt
  obtain ⟨h1,h2,h3⟩:=hb tp.b (h.role _ r ro).1
  exact ⟨h2.trans ro,vs,t,h1.trans hh,hce,fun o ho=>(h3 o).trans (hK o ho)⟩
 |void=>
  obtain ⟨a,b,c,d⟩:=k
  exact hv a b c d
 |loop L=>
  obtain ⟨b,D,fid,tmps,bD,e,ro,hh,hc,hD,hd,hK,hK'⟩:=k
  obtain ⟨h1,h2,h3⟩:=hb b (h.role b r ro).1
  obtain ⟨g1,g2,g3⟩:=hb D (h.role D r hD).1
  exact ⟨b,D,fid,tmps,bD,le.om r b e,h2.trans ro,h1.trans hh,hc.mono0 le.to0,g2.trans hD,g1.trans hd,fun o=>(h3 o).trans (hK o),fun o=>(g3 o).trans (hK' o)⟩
 |row cs sz t=>
  obtain ⟨b,c,vs,e,e',ro,hh,q1,q2,hc,hK⟩:=k
  obtain ⟨h1,h2,h3⟩:=hb b (h.role b r ro).1
  exact ⟨b,c,vs,le.om r b e,le.om _ c e',h2.trans ro,h1.trans hh,q1,q2,relCs.mono le _ _ hc,fun o=>(h3 o).trans (hK o)⟩
theorem holds.agree {s:HS} {G G':Ghost} {w w':World} (h:SRel G s w) (le:G.Le G')
  (hb:∀ b,b < w.heap.size→w'.heap[b]? = w.heap[b]?∧G'.role b=G.role b∧∀ o,G'.K b o=G.K b o)
  (ht:∀ r tp,G.top r=some tp→G'.top r=some tp) (hv:∀ r,r < G.lim→G.om r=none→G.top r=none→(∀ b,G.role b≠some r)→r < G'.lim∧G'.om r=none∧G'.top r=none∧∀ b,G'.role b≠some r) {r:Nat} {x:Res} (k:holds G w r x):holds G' w' r x:=
 k.agree1 h le hb ht (hv r)
/-- A new object. -/
def Ghost.newObj (G:Ghost) (b:Nat):Ghost:=
 {G with om:=fun r=>if r=G.lim then some b else G.om r,role:=fun b'=>if b'=b then some G.lim else G.role b',lim:=G.lim+1}
theorem Ghost.newObj_le {G:Ghost} {s:HS} {w:World} (h:SRel G s w) (b:Nat):G.Le (G.newObj b):=
 ⟨fun _ _ _ e=>e,fun r b' e=>by
  have:=h.lt_om e
  simp only [Ghost.newObj]
  rw [if_neg (by omega)];exact e,fun _ t e=>⟨t,e,Nat.le_refl _,fun _=>rfl⟩,rfl⟩
theorem Ghost.newObj_voids (G:Ghost) (b:Nat) (r:Nat) (h0:r < G.lim) (h1:G.om r=none) (h2:G.top r=none) (h3:∀ b,G.role b≠some r):r < (G.newObj b).lim∧(G.newObj b).om r=none∧(G.newObj b).top r=none∧∀ b',(G.newObj b).role b'≠some r:=by
 simp only [Ghost.newObj]
 refine ⟨by omega,by rw [if_neg (by omega)];exact h1,h2,fun b'=>?_⟩
 split
 ·simp;omega
 ·exact h3 b'
theorem post_newObj {G:Ghost} {s:HS} {w:World} (h:SRel G s w) (o:Obj) (x:Res) (hx:holds (G.newObj w.heap.size) (World.pushed w o) G.lim x) :
  Post s G w ((G.lim,x)::s) (G.newObj w.heap.size) (World.pushed w o):=by
 have le:=Ghost.newObj_le h w.heap.size
 have hb:∀ b,b < w.heap.size→(World.pushed w o).heap[b]? = w.heap[b]?∧(G.newObj w.heap.size).role b=G.role b∧∀ o,(G.newObj w.heap.size).K b o=G.K b o:=fun b hb=>
  ⟨pushed_lt w o hb,by simp only [Ghost.newObj];rw [if_neg (by omega)],fun _=>rfl⟩
 refine ⟨⟨fun b off v e=>pushed_cell w o (h.kw b off v e),?_,fun r y hy=>?_,fun r hr=>?_,fun b r e=>?_⟩,⟨le,by simp [World.pushed],fun b hlt _=>hb b hlt,fun r tp e _=>e,by simp [Ghost.newObj],rfl,rfl,rfl,fun r h0 _ h1 h2 h3=>(Ghost.newObj_voids G _ r h0 h1 h2 h3).2⟩,fun r hr=>?_⟩
 ·simp only [keys,List.map_cons,List.nodup_cons]
  exact ⟨fun hm=>by have:=h.lt_key hm;omega,h.keys⟩
 ·rcases List.mem_cons.1 hy with hy|hy
  ·cases hy;exact hx
  ·exact (h.holds r y hy).agree h le hb (fun _ _ e=>e) (Ghost.newObj_voids G _)
 ·simp only [Ghost.newObj] at hr ⊢
  rw [if_neg (by omega)]
  exact h.fresh r (by omega)
 ·simp only [Ghost.newObj,World.pushed,Array.size_push] at e ⊢
  split at e
  ·rename_i hb;subst hb;cases e;omega
  ·have:=h.role b r e;omega
 ·simp only [keys,List.map_cons,List.mem_cons] at hr
  rcases hr with rfl|hr
  ·exact .inr (Nat.le_refl _)
  ·exact .inl hr
theorem new_ok (P:Program) {s:HS} {G:Ghost} {w:World} (hs:SRel G s w) (t:TypeId) {x:HV} {u:Value} (hx:rel G x u) :
  ResOK P s G w ((do pure (Next.value (←(do pure (Value.pointer (some (←newVar t u)))))):Sem Next).run P w) (hnew s t x):=by
 unfold hnew
 split
 case h_2=>trivial
 rename_i hk
 have hk:=kdOk_ne hk
 rw [forceL_eq]
 intro K hK
 have hc:=rel_cells hx hk
 refine ⟨.ptr G.lim 0,(G.lim,.cells x.cells t)::s,hK G.lim (fun hm=>by have:=hs.lt_key hm;omega),?_⟩
 refine ⟨.pointer (some ⟨w.heap.size,0,none⟩),World.pushed w (.cells u.cells t),G.newObj w.heap.size,.inl ?_,ptr_rel (by simp [Ghost.newObj]),?_⟩
 ·simp [newVar,newRow,Go.newObj,Sem.run,World.pushed]
 ·refine post_newObj hs _ _ ⟨w.heap.size,u.cells,by simp [Ghost.newObj],by simp [Ghost.newObj],pushed_new w _,relCs.mono (Ghost.newObj_le hs _) _ _ hc,fun o=>?_⟩
  exact hs.K_new (Nat.le_refl _) o
/-! Stores. -/
theorem hset_keys (s:HS) (r:Nat) (y:Res):keys (hset s r y)=keys s:=by
 induction s with
 |nil=>simp only [hset_nil]
 |cons p s ih=>
  obtain ⟨q,x⟩:=p
  simp only [hset_cons]
  split
  ·rfl
  ·simp only [keys,List.map_cons] at ih ⊢;rw [ih]
theorem hset_mem {s:HS} {r:Nat} {y:Res} (hn:(keys s).Nodup):∀ {q:Nat} {x:Res},(q,x)∈hset s r y→(q=r∧x=y)∨(q≠r∧(q,x)∈s):=by
 induction s with
 |nil=>intro q x h;simp [hset_nil] at h
 |cons p s ih=>
  obtain ⟨q',x'⟩:=p
  simp only [keys,List.map_cons,List.nodup_cons] at hn
  intro q x h
  simp only [hset_cons] at h
  split at h
  ·rename_i e
   subst e
   rcases List.mem_cons.1 h with h|h
   ·cases h;exact .inl ⟨rfl,rfl⟩
   ·exact .inr ⟨fun e=>hn.1 (List.mem_map.2 ⟨_,h,by rw [e]⟩),List.mem_cons_of_mem _ h⟩
  ·rename_i e
   rcases List.mem_cons.1 h with h|h
   ·cases h;exact .inr ⟨e,List.mem_cons_self⟩
   ·rcases ih hn.2 h with ⟨h1,h2⟩|⟨h1,h2⟩
    ·exact .inl ⟨h1,h2⟩
    ·exact .inr ⟨h1,List.mem_cons_of_mem _ h2⟩
theorem setRow_get (w:World) (g:Nat) (cur cur':Array Value) (t:TypeId) (h:w.heap[g]? = some (.cells cur t (0,0))) (b:Nat):(w.setRow g cur').heap[b]? = if b=g then some (.cells cur' t (0,0)) else w.heap[b]?:=by
 by_cases e:b=g
 ·subst e;rw [if_pos rfl];exact setRow_heap w b cur cur' t _ h
 ·rw [if_neg e];simp [World.setRow,Array.getElem?_modify,Ne.symm e]
/-- A block of an owner is written; what is told of its cells may come to be told. -/
theorem post_write {G G':Ghost} {s:HS} {w:World} (h:SRel G s w) {b r:Nat} {cur cur':Array Value} {t:TypeId} {x:Res} (hb:w.heap[b]? = some (.cells cur t (0,0))) (ro:G.role b=some r) (hr:r∈keys s)
  (hx:holds G' (w.setRow b cur') r x) (le:G.Le G') (hK:∀ b',b'≠b→∀ o,G'.K b' o=G.K b' o) (hKb:∀ o v,G'.K b o=some v→cur'[o]? = some v)
  (hrole:G'.role=G.role) (hom:G'.om=G.om) (htop:∀ q,q≠r→G'.top q=G.top q) (hlim:G'.lim=G.lim) (hsz:(w.setRow b cur').heap.size=w.heap.size) :
  Post s G w (hset s r x) G' (w.setRow b cur'):=by
 have get:=setRow_get w b cur cur' t hb
 refine ⟨⟨fun b' o v e=>?_,?_,fun q y hy=>?_,fun q hq=>?_,fun b' q e=>?_⟩,⟨le,by rw [hsz];exact Nat.le_refl _,fun b' hlt hq=>?_,fun q tp e hq=>?_,by rw [hlim];exact Nat.le_refl _,rfl,rfl,rfl,fun q _ hk h1 h2 h3=>⟨by rw [hom];exact h1,by rw [htop q (fun e=>hk (e ▸ hr))];exact h2,fun b'=>by rw [hrole];exact h3 b'⟩⟩,fun q hq=>?_⟩
 ·by_cases e':b'=b
  ·subst e'
   simp only [World.cell?,get,if_true,Option.isSome_none,Bool.false_eq_true,if_false]
   exact hKb o v e
  ·rw [hK b' e'] at e
   have:=h.kw b' o v e
   simp only [World.cell?,get,if_neg e'] at this ⊢
   exact this
 ·rw [hset_keys];exact h.keys
 ·rcases hset_mem h.keys hy with ⟨rfl,rfl⟩|⟨hne,hm⟩
  ·exact hx
  ·have ho:=h.holds q y hm
   have other:∀ b',G.role b'=some q→b'≠b:=fun b' e e'=>by subst e';rw [ro] at e;cases e;exact hne rfl
   cases y with
   |cells cs t'=>
    obtain ⟨b',vs,e,ro',hh,hc,hk⟩:=ho
    have:=other b' ro'
    exact ⟨b',vs,by rw [hom];exact e,by rw [hrole];exact ro',by rw [get,if_neg this];exact hh,relCs.mono le _ _ hc,fun o=>by rw [hK b' this];exact hk o⟩
   |map es=>
    obtain ⟨b',ents,cl,e,ro',hh,hc⟩:=ho
    have:=other b' ro'
    exact ⟨b',ents,cl,by rw [hom];exact e,by rw [hrole];exact ro',by rw [get,if_neg this];exact hh,relMap.mono le _ _ hc⟩
   |tok n=>
    obtain ⟨tp,e,hn,hq⟩:=ho
    refine ⟨tp,by rw [htop q hne];exact e,hn,fun hlt=>?_⟩
    obtain ⟨ro',vs,t',hh,hce,hk⟩:=hq hlt
    have:=other tp.b ro'
    exact ⟨by rw [hrole];exact ro',vs,t',by rw [get,if_neg this];exact hh,hce,fun o ho=>by rw [hK _ this];exact hk o ho⟩
   |void=>
    obtain ⟨a,b',c,d⟩:=ho
    exact ⟨by rw [hlim];exact a,by rw [hom];exact b',by rw [htop q hne];exact c,fun b'=>by rw [hrole];exact d b'⟩
   |loop L=>exact ho.move rfl le.to0 (fun b' hr=>⟨by rw [get,if_neg (other b' hr)],by rw [hrole];exact hr,fun o=>by rw [hK b' (other b' hr)]⟩)
   |row cs' sz' t''=>exact ho.move rfl le.to0 (fun b' hr=>⟨by rw [get,if_neg (other b' hr)],by rw [hrole];exact hr,fun o=>by rw [hK b' (other b' hr)]⟩)
 ·rw [hlim] at hq
  have:=h.fresh q hq
  refine ⟨by rw [hom];exact this.1,?_⟩
  have hne:q≠r:=fun e=>by have:=h.lt_key hr;omega
  rw [htop q hne];exact this.2
 ·rw [hrole] at e
  have:=h.role b' q e
  rw [hsz,hlim];exact this
 ·have hne:b'≠b:=fun e=>by subst e;exact hq r ro hr
  exact ⟨by rw [get,if_neg hne],by rw [hrole],hK b' hne⟩
 ·rw [htop q (fun e=>hq (e ▸ hr))];exact e
 ·rw [hset_keys] at hq;exact .inl hq
theorem setRow_size (w:World) (g:Nat) (cs:Array Value):(w.setRow g cs).heap.size=w.heap.size:=by simp [World.setRow]
theorem store_ok (c:Cx) {s:HS} {G:Ghost} {w:World} (hs:SRel G s w) (t:TypeId) {p x:HV} {u v:Value} (hp:rel G p u) (hx:rel G x v) :
  ResOK c.P s G w ((do Instr.storeAt t u v;pure Next.skip:Sem Next).run c.P w) (hstore c s t p x):=by
 unfold hstore
 split
 ·trivial
 ·rename_i d hd
  have ht:=c.ty_ok t d hd
  split
  ·rename_i r off
   obtain ⟨b,ho,e⟩:=rel_ptr hp
   subst e
   intro rx hg
   cases rx with
   |cells cs t'=>
    simp only []
    split
    case h_2=>trivial
    rename_i hchk
    simp only [Bool.and_eq_true,Nat.beq_eq] at hchk
    obtain ⟨hk,hl⟩:=hchk
    have hk:=kdOk_ne hk
    rintro K ⟨hlen,hK⟩
    have hm:=hget_mem hg
    obtain ⟨b',vs,ho',ro,hb,hcs,hKn⟩:=hs.holds r _ hm
    rw [ho] at ho'
    cases ho'
    have hxc:=rel_cells hx hk
    have hvl:v.cells.toList.length=d.size:=by rw [relCs_length hxc,hl]
    have hvs:vs.toList.length=cs.length:=relCs_length hcs
    have run:=run_storeCells_at c.P b off t' v.cells.toList 0 vs w hb (by simp only [Nat.add_zero];rw [hvl];simp at hvs;omega) (fun x hx=>vkd_oneCell (relCs_one hxc x hx))
    refine ⟨_,_,hK,undef,w.setRow b (vs.toList.take off ++ v.cells.toList ++ vs.toList.drop (off+d.size)).toArray,G,.inr ⟨?_,rfl⟩,⟨rfl,?_⟩,?_⟩
    ·have hsz:¬ v.cells.size≠d.size:=by simp only [Array.length_toList] at hvl;omega
     simp only [Instr.storeAt,Instr.sureAddr,storeVar,Sem.run_bind,pure_bind,ht.sizeOf,Result.andThen_ok,hsz,if_false,run,Nat.add_zero,hvl]
     rfl
    ·simp only [relC];exact ⟨#[],rfl,by simp [relVs]⟩
    ·refine post_write hs hb ro (List.mem_map.2 ⟨_,hm,rfl⟩) ?_ (.refl G) (fun _ _ _=>rfl) (fun o v e=>by rw [hKn] at e;cases e) rfl rfl (fun _ _=>rfl) rfl (setRow_size ..)
     refine ⟨b,_,ho,ro,setRow_heap w b vs _ t' _ hb,?_,hKn⟩
     exact relCs_append (relCs_append (relCs_take off hcs) hxc) (relCs_drop _ hcs)
   |map es=>trivial
   |tok n=>trivial
   |void=>trivial
   |loop L=>trivial
   |row cs' sz' t''=>trivial
  ·trivial
end
end Go.Proofs.Hk

namespace Go.Proofs.Hk
noncomputable section
open Go
/-! Structs. -/
theorem kd_ok {x:HV} (h:kdOk x=true):x.kd≠.tup:=kdOk_ne h
theorem foldl_set (off:Nat):∀ (vs:List Value) (k:Nat) (cells:Array Value),off+k+vs.length≤cells.size→
  ((vs.zipIdx k).foldl (fun cs (c,j)=>cs.setIfInBounds (off+j) c) cells)=(cells.toList.take (off+k) ++ vs ++ cells.toList.drop (off+k+vs.length)).toArray
 |[],k,cells,h=>by simp
 |v::vs,k,cells,h=>by
  simp only [List.zipIdx_cons,List.foldl_cons]
  simp only [List.length_cons] at h
  rw [foldl_set off vs (k+1) (cells.setIfInBounds (off+k) v) (by simp;omega)]
  have e:=list_seg_step cells.toList (off+k) v vs (by simp;omega)
  simpa [Array.toList_setIfInBounds,Nat.add_assoc] using e
theorem foldl_set' (off:Nat) (vs:Array Value) (cells:Array Value) (h:off+vs.size≤cells.size) :
  (vs.zipIdx.foldl (fun cs (c,j)=>cs.setIfInBounds (off+j) c) cells)=(cells.toList.take off ++ vs.toList ++ cells.toList.drop (off+vs.size)).toArray:=by
 have:=foldl_set off vs.toList 0 cells (by simpa using h)
 rw [←Array.foldl_toList,Array.toList_zipIdx]
 simpa using this
theorem run_mapM_places {P:Program} {w:World} : ∀ {fs:List Field} {l:List (Nat × Nat × Bool)},fieldsOK P fs l→
  (fs.mapM fun f=>do pure (f.offset,←sizeOf f.type):Sem (List (Nat × Nat))).run P w = .ok (l.map fun x=>(x.1,x.2.1)) w
 |[],l,h=>by simp only [fieldsOK] at h;subst h;rfl
 |f::fs,l,h=>by
  simp only [fieldsOK] at h
  obtain ⟨o,s,b,l',rfl,ho,⟨inf,u,hi,hu,hs,hb⟩,h2⟩:=h
  simp only [List.mapM_cons,Sem.run_bind,bind_assoc,pure_bind,run_sizeOf _ hi,Result.andThen_ok,run_mapM_places h2]
  simp [Program.cellsOf,hi,hs,ho,Sem.run]
theorem fill_ok {G:Ghost} {fs:List (Nat × Nat × Bool)} : ∀ {parts:List (Nat × HV)} {us:List Value} {l l':List HV} {cells:Array Value},
  relVs G (parts.map (·.2)) us→relCs G l cells.toList→hfill fs parts l=some l'→
  ∃ cells',Instr.fill (((fs.map fun x=>(x.1,x.2.1)).toArray)[·]?) cells ((parts.map (·.1)).zip us)=some cells'∧relCs G l' cells'.toList
 |[],us,l,l',cells,h,hc,e=>by
  simp only [List.map_nil,relVs] at h
  subst h
  simp only [hfill,Option.some.injEq] at e
  subst e
  exact ⟨cells,rfl,hc⟩
 |(i,x)::rest,us,l,l',cells,h,hc,e=>by
  simp only [List.map_cons,relVs_cons] at h
  obtain ⟨u,us',rfl,hx,h2⟩:=h
  simp only [hfill] at e
  split at e
  ·cases e
  ·rename_i o s b hf
   split at e
   ·cases e
   ·rename_i hs
    split at e
    ·rename_i hk
     split at e
     ·rename_i hbnd
      have hs:x.cells.length=s:=by simpa using hs
      have hk:x.kd≠.tup:=kd_ok hk
      have hxc:=rel_cells hx hk
      have hul:u.cells.size=s:=by have:=relCs_length hxc;simp at this;omega
      have hbnd:o+s≤l.length:=by simpa using hbnd
      have hcl:cells.size=l.length:=by have:=relCs_length hc;simpa using this
      have fs':=foldl_set' o u.cells cells (by omega)
      obtain ⟨cells',e1,e2⟩:=fill_ok (cells:=u.cells.zipIdx.foldl (fun cs (c,j)=>cs.setIfInBounds (o+j) c) cells) h2 (by
       rw [fs']
       exact relCs_append (relCs_append (relCs_take o hc) hxc) (by rw [hul];exact relCs_drop _ hc)) e
      refine ⟨cells',?_,e2⟩
      simp only [List.map_cons,List.zip_cons_cons,Instr.fill]
      have:((fs.map fun x=>(x.1,x.2.1)).toArray)[i]? = some (o,s):=by simp [hf]
      rw [this]
      simp only []
      rw [if_neg (by simp;omega)]
      exact e1
     ·cases e
    ·cases e
theorem build_ok (c:Cx) {s:HS} {G:Ghost} {w:World} (hs:SRel G s w) (t:TypeId) {ns:List Nat} {vs:List HV} {us:List Value} (hn:ns.length=vs.length) (hx:relVs G vs us) :
  ResOK c.P s G w ((do pure (Next.value (←Instr.build t (ns.zip us).toArray)):Sem Next).run c.P w) (hbuild c t (ns.zip vs)):=by
 unfold hbuild
 split
 ·rename_i size bytes ag cs fs eq hd
  have ht:=c.ty_ok t _ hd
  split
  ·rename_i l hl
   rw [forceL_eq]
   obtain ⟨F,hu,hF,_⟩:=ht.struct (w:=w) rfl
   split at hl
   ·rename_i hone
    have hz:=ht.zero (w:=w)
    have hc0:relCs G (cs.toList.map .v) cs.toList:=relCs_map_v G cs.toList fun u hu=>by
     have:=(List.all_eq_true.1 hone) u hu
     cases u<;>first|rfl|cases this
    have e1:(ns.zip vs).map (·.2)=vs:=by simp [List.map_snd_zip,hn]
    have e2:(ns.zip vs).map (·.1)=ns:=by simp [List.map_fst_zip,hn]
    obtain ⟨cells',h1,h2⟩:=fill_ok (by rw [e1];exact hx) hc0 hl
    rw [e2] at h1
    refine ⟨.agg cells',w,G,.inl ?_,by simpa using rel_agg h2,.refl hs⟩
    have hm:=run_mapM_places (w:=w) hF
    have hm':(F.mapM fun f=>do pure (f.offset,←sizeOf f.type):Sem (Array (Nat × Nat))).run c.P w = .ok (fs.map fun x=>(x.1,x.2.1)).toArray w:=by
     rw [←Array.toArray_toList (xs:=F),List.mapM_toArray]
     simp only [Sem.run_map,hm,Result.andThen_ok]
    simp only [Instr.build,Sem.run_bind,hz,Result.andThen_ok,hu,hm']
    have h1':Instr.fill (fun x=>(fs.map fun x=>(x.1,x.2.1)).toArray[x]?) (Value.agg cs).cells (ns.zip us)=some cells':=h1
    rw [h1']
    rfl
   ·cases hl
  ·trivial
 ·trivial
end
end Go.Proofs.Hk

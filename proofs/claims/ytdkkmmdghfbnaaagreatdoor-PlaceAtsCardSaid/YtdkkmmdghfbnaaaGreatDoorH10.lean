import Derived.Laws.Append
import Derived.Test.YtdkkmmdghfbnaaaGreatDoorH4
import Derived.IntWalk
import Derived.Lib.ConvBytes
set_option linter.unusedSimpArgs false
set_option linter.unusedVariables false
namespace Go.Proofs.Hk
noncomputable section
open Go
theorem relC_cells_one {G:Ghost} {x:HV} {cs:List Value} (h:relC G x cs) (hx:x.kd≠.tup):∀ u∈cs,vkd u = .one:=by
 by_cases ho:x.kd = .one
 ·obtain ⟨u,rfl,hu⟩:=relC_one h ho
  intro v hv
  rw [List.mem_singleton.1 hv];exact hu
 ·cases x<;>first|exact absurd rfl ho|exact absurd rfl hx|skip
  simp only [relC] at h
  exact relCs_one h
/-- The cells of a row's elements. -/
theorem relAts_cells {G:Ghost} {sz:Nat} {rd:Nat→Option Value} : ∀ {l:List HV} {o:Nat},relAts G l rd o sz→
  ∃ news:List Value,news.length=l.length * sz∧(∀ j,j < news.length→rd (o+j)=news[j]?)∧(∀ u∈news,vkd u = .one)∧
   ∀ (G':Ghost) (rd':Nat→Option Value) (o':Nat),G.Le G'→(∀ j,j < news.length→rd' (o'+j)=news[j]?)→relAts G' l rd' o' sz
 |[],o,_=>⟨[],by simp,by simp,by simp,fun _ _ _ _ _=>by simp only [relAts]⟩
 |x::xs,o,h=>by
  simp only [relAts] at h
  obtain ⟨⟨cs,h1,h2,h3,h4⟩,h5⟩:=h
  obtain ⟨news,n1,n2,n3,n4⟩:=relAts_cells h5
  refine ⟨cs ++ news,?_,fun j hj=>?_,fun u hu=>?_,fun G' rd' o' le hr=>?_⟩
  ·simp only [List.length_append,h1,n1,List.length_cons,Nat.add_mul,Nat.one_mul];omega
  ·rcases Nat.lt_or_ge j sz with hlt|hge
   ·rw [List.getElem?_append_left (by omega)];exact h3 j hlt
   ·rw [List.getElem?_append_right (by omega),h1,←n2 (j - sz) (by simp only [List.length_append] at hj;omega)]
    congr 1;omega
  ·rcases List.mem_append.1 hu with hu|hu
   ·exact relC_cells_one h4 h2 u hu
   ·exact n3 u hu
  ·simp only [relAts]
   refine ⟨⟨cs,h1,h2,fun j hj=>?_,relC.mono le _ _ h4⟩,n4 G' rd' (o'+sz) le fun j hj=>?_⟩
   ·rw [hr j (by simp only [List.length_append];omega),List.getElem?_append_left (by omega)]
   ·rw [Nat.add_assoc,hr (sz+j) (by simp only [List.length_append];omega),List.getElem?_append_right (by omega),h1]
    congr 1;omega
structure Src (P:Program) (G:Ghost) (w:World) (sz:Nat) (v:Value) (ys:List HV) (news:List Value):Prop where
 len:∀ w',(Builtin.lenOf v).run P w' = .ok ys.length w'
 first:∀ w',w'.heap=w.heap→(Builtin.firstCells sz ys.length v).run P w' = .ok news.toArray w'
 length:news.length=ys.length * sz
 one:∀ u∈news,vkd u = .one
 rel:∀ (G':Ghost) (rd:Nat→Option Value) (o:Nat),G.Le G'→(∀ j,j < news.length→rd (o+j)=news[j]?)→relAts G' ys rd o sz
theorem cell_of_heap {w w':World} (h:w'.heap=w.heap) (a:Addr):w'.cell? a=w.cell? a:=by simp only [World.cell?,h]
theorem src_list (P:Program) {G:Ghost} {w:World} {s:HS} (hs:SRel G s w) {t:Tok} {sz:Nat} {l:List HV} {v:Value} (h:rel G (.list t sz l) v):∃ news,Src P G w sz v l news:=by
 rcases (rel_list h).imp id or_comm.1 with ⟨rfl,rfl,_⟩|⟨rfl,_,a,rfl⟩|⟨b,o,c,rfl,_,ha,_⟩
 ·exact ⟨[],fun w'=>by simp [Builtin.lenOf],fun w' _=>by simp [Builtin.firstCells],by simp,by simp,fun _ _ _ _ _=>by simp only [relAts]⟩
 ·exact ⟨[],fun w'=>by simp [Builtin.lenOf],fun w' _=>run_firstCells_some w' sz 0 a 0 0 [] (by simp) (fun j u e=>by simp at e),by simp,by simp,fun _ _ _ _ _=>by simp only [relAts]⟩
 ·obtain ⟨news,n1,n2,n3,n4⟩:=relAts_cells ha
  refine ⟨news,fun w'=>by simp [Builtin.lenOf],fun w' hw=>?_,n1,n3,n4⟩
  refine run_firstCells_some w' sz l.length ⟨b,o,none⟩ l.length c news n1 fun j u e=>?_
  rw [add_plain,cell_of_heap hw]
  have hj:=(List.getElem?_eq_some_iff.1 e).1
  have:=n2 j hj
  rw [e] at this
  exact hs.kw _ _ _ this
theorem src_nil (P:Program) (G:Ghost) (w:World) (sz:Nat):Src P G w sz (.slice none 0 0) [] []:=
 ⟨fun w'=>by simp [Builtin.lenOf],fun w' _=>by simp [Builtin.firstCells],by simp,by simp,fun _ _ _ _ _=>by simp only [relAts]⟩
theorem relAts_bytes (G:Ghost) (rd:Nat→Option Value):∀ (l:List UInt8) (o:Nat),(∀ j,j < l.length→rd (o+j)=(l.map fun b=>Value.int .u8 (b.toNat:Int))[j]?)→relAts G (l.map fun b=>HV.v (.int .u8 (b.toNat:Int))) rd o 1
 |[],o,_=>by simp [relAts]
 |b::l,o,h=>by
  simp only [List.map_cons,relAts]
  refine ⟨⟨[.int .u8 b.toNat],rfl,by simp [HV.kd],fun j hj=>?_,by simp [relC,vkd]⟩,relAts_bytes G rd l (o+1) fun j hj=>?_⟩
  ·have:j=0:=by omega
   subst this
   simpa using h 0 (by simp)
  ·have:=h (j+1) (by simpa using hj)
   rw [show o+1+j=o+(j+1) from by omega,this]
   simp
theorem src_string (P:Program) (G:Ghost) (w:World) (b:ByteArray):Src P G w 1 (.string b) (b.data.toList.map fun x=>.v (.int .u8 x.toNat)) (b.data.toList.map fun x=>.int .u8 x.toNat):=by
 have hl:(b.data.toList.map fun x=>HV.v (.int .u8 (x.toNat:Int))).length=b.size:=by simp
 refine ⟨fun w'=>by simp [Builtin.lenOf],fun w' _=>?_,by simp,fun u hu=>?_,fun G' rd o _ h=>relAts_bytes G' rd _ o fun j hj=>by simpa using h j (by simpa using hj)⟩
 ·rw [hl]
  simp only [Builtin.firstCells,Sem.run_pure,Result.ok.injEq,and_true]
  have:b.extract 0 b.size=b:=ByteArray.extract_zero_size
  rw [this]
  apply Array.toList_inj.1
  simp
 ·obtain ⟨x,_,rfl⟩:=List.mem_map.1 hu
  rfl
def capOf (w:World) (need old:Nat) (e:TypeId):Nat:=(Question.appendCap need old e).cut (w.tape w.drawn (.appendCap need old e))
theorem capOf_ge (w:World) (need old:Nat) (e:TypeId):need≤capOf w need old e:=by simp [capOf,Question.cut]
theorem run_append_new {P:Program} {w:World} {t u ty e:TypeId} {d:TyD} {du:TypeDesc} (ht:∀ w:World,(underlying t).run P w = .ok (.slice e) w) (hu:∀ w:World,(underlying u).run P w = .ok du w) (hdu:du = .string∨∃ e',du = .slice e') (hd:TyOK P e d)
  {base:Option Addr} {n c:Nat} {v:Value} {olds news:List Value} {ys:List HV} {G:Ghost}
  (hold:∀ w',w'.heap=w.heap→(Builtin.firstCells d.size n (.slice base n c)).run P w' = .ok olds.toArray w') (hsrc:Src P G w d.size v ys news)
  (hc:c < n+ys.length) (hb:0 < d.bytes) (hfit:(n+ys.length) * d.bytes≤140737488355328) :
  (Builtin.append_ #[t,u] ty #[.slice base n c,v]).run P w =
   .ok (.slice (some ⟨w.heap.size,0,none⟩) (n+ys.length) (capOf w (n+ys.length) c e))
    (World.pushed (w.drew) (.cells (olds.toArray ++ news.toArray ++ Builtin.zeroCells d.zero.cells (capOf w (n+ys.length) c e - (n+ys.length))) e)):=by
 have hsz:n+ys.length≤140737488355328:=by
  have:(n+ys.length) * 1≤(n+ys.length) * d.bytes:=Nat.mul_le_mul_left _ hb
  omega
 have hcap:=growslice_fits (need:=n+ys.length) (old:=c) (bytes:=d.bytes) hc (by omega)
 obtain ⟨i,hi,hib⟩:=hd.info (w:=w)
 have hinfo:∀ w:World,(typeInfo e).run P w = .ok i w:=fun w'=>by
  have hq:=hd
  obtain ⟨i',u',e1,_⟩:=hq
  have a1:=run_typeInfo (P:=P) w e1
  rw [hi] at a1
  cases a1
  exact run_typeInfo w' e1
 have hn:¬ (n+ys.length≤c):=by omega
 have hx1:¬ (9223372036854775807 < (n:Int)+(ys.length:Int)∧i.bytes=0):=by rintro ⟨_,h⟩;omega
 have hx2:¬ (281474976710656 < Builtin.nextslicecap (n+ys.length) c * i.bytes):=by rw [hib.2.1];omega
 have hfo:(Question.appendCap (n+ys.length) c e).forced=false:=rfl
 have ho':=hold (w.drew) rfl
 have hn':=hsrc.first (w.drew) rfl
 have hlen:=hsrc.len
 have hsize:=fun w=>hd.sizeOf (w:=w)
 have hzero:=fun w=>hd.zero (w:=w)
 rcases hdu with rfl|⟨e',rfl⟩<;>
 ·simp [Builtin.append_,ht,hu,hsize,hlen,hn,hinfo,hx1,hx2,hfo,ho',hn',hzero,newRow]
  have hap:∀ z:Array Value,olds.toArray ++ (news.toArray ++ z)=(olds ++ news).toArray ++ z:=fun z=>by
   apply Array.ext'
   simp
  simp only [World.pushed,World.alloc,capOf,hap,and_self]
theorem run_append_room' {P:Program} {w:World} {t u ty e:TypeId} {d:TyD} {du:TypeDesc} (ht:∀ w:World,(underlying t).run P w = .ok (.slice e) w) (hu:∀ w:World,(underlying u).run P w = .ok du w) (hdu:du = .string∨∃ e',du = .slice e') (hd:TyOK P e d)
  {g o n c:Nat} {cur:Array Value} {tt:TypeId} {v:Value} {news:List Value} {ys:List HV} {G:Ghost} (hg:w.heap[g]? = some (.cells cur tt (0,0))) (hsrc:Src P G w d.size v ys news)
  (hroom:n+ys.length≤c) (hfit:o+n * d.size+news.length≤cur.size) :
  (Builtin.append_ #[t,u] ty #[.slice (some ⟨g,o,none⟩) n c,v]).run P w =
   .ok (.slice (some ⟨g,o,none⟩) (n+ys.length) c) (w.setRow g (cur.toList.take (o+n * d.size) ++ news ++ cur.toList.drop (o+n * d.size+news.length)).toArray):=by
 have hst:=run_storeCells_at P g (o+n * d.size) tt news 0 cur w hg (by simpa using hfit) (fun u hu=>vkd_oneCell (hsrc.one u hu))
 simp only [Nat.add_zero] at hst
 have hn':=hsrc.first w rfl
 have hlen:=hsrc.len
 have hsize:=fun w=>hd.sizeOf (w:=w)
 rcases hdu with rfl|⟨e',rfl⟩<;>simp [Builtin.append_,ht,hu,hsize,hlen,hroom,hn',add_plain,hst]
theorem run_append_none {P:Program} {w:World} {t u ty e:TypeId} {d:TyD} {du:TypeDesc} (ht:∀ w:World,(underlying t).run P w = .ok (.slice e) w) (hu:∀ w:World,(underlying u).run P w = .ok du w) (hdu:du = .string∨∃ e',du = .slice e') (hd:TyOK P e d)
  {base:Option Addr} {n c:Nat} {v:Value} {news:List Value} {G:Ghost} (hsrc:Src P G w d.size v [] news) (hn:n≤c) :
  (Builtin.append_ #[t,u] ty #[.slice base n c,v]).run P w = .ok (.slice base n c) w:=by
 have hn':=hsrc.first w rfl
 have hlen:=hsrc.len
 have hsize:=fun w=>hd.sizeOf (w:=w)
 have hnil:news=[]:=by have:=hsrc.length;simpa using this
 subst hnil
 simp only [List.length_nil] at hn' hlen
 rcases hdu with rfl|⟨e',rfl⟩<;>cases base<;>simp [Builtin.append_,ht,hu,hsize,hlen,hn,hn',storeCells]
end
end Go.Proofs.Hk

namespace Go.Proofs.Hk
noncomputable section
open Go
/-- A row that has moved to a new block, or is new. -/
def Ghost.grown (G:Ghost) (r n B e ce lim:Nat) (vs:Array Value):Ghost:=
 {K:=fun b o=>if b=B then (if o < e then vs[o]? else none) else G.K b o
  om:=G.om
  top:=fun q=>if q=r then some ⟨n,B,e,ce⟩ else G.top q
  role:=fun b=>if b=B then some r else G.role b
  lim:=lim
  df:=G.df}
theorem post_grown {G:Ghost} {s s':HS} {w w':World} (h:SRel G s w) (hw:w'.heap=w.heap) {r n e ce lim:Nat} {vs:Array Value} {t:TypeId} (ho:w'.os=w.os) (ht:w'.tape=w.tape) (hp:w'.output=w.output)
  (hr:(G.lim≤r∧lim=r+1∧s'=(r,.tok n)::s)∨(r∈keys s∧lim=G.lim∧s'=hset s r (.tok n)∧∀ tp,G.top r=some tp→tp.n < n))
  (hce:ce≤vs.size) :
  Post s G w s' (G.grown r n w.heap.size e ce lim vs) (World.pushed w' (.cells vs t)):=by
 have hsz:w'.heap.size=w.heap.size:=by rw [hw]
 have hlt:∀ b,b < w.heap.size→(World.pushed w' (.cells vs t)).heap[b]? = w.heap[b]?:=fun b hb=>by rw [pushed_lt w' _ (by omega),hw]
 have hnew:(World.pushed w' (.cells vs t)).heap[w.heap.size]? = some (.cells vs t (0,0)):=by rw [←hsz];exact pushed_new w' _
 have hrl:r < lim∧G.lim≤lim:=by
  rcases hr with ⟨h1,h2,_⟩|⟨h1,h2,_⟩
  ·omega
  ·have:=h.lt_key h1;omega
 have le:G.Le (G.grown r n w.heap.size e ce lim vs):=by
  refine ⟨fun b o v e'=>?_,fun _ _ e'=>e',fun q tp e'=>?_,rfl⟩
  ·have:=h.K_lt e'
   simp only [Ghost.grown]
   rw [if_neg (by omega)];exact e'
  ·simp only [Ghost.grown]
   split
   ·rename_i hq
    subst hq
    rcases hr with ⟨h1,_⟩|⟨_,_,_,hlt'⟩
    ·have:=h.lt_top e';omega
    ·have:=hlt' _ e'
     exact ⟨_,rfl,by simp only [];omega,fun hq=>by simp only [] at hq;omega⟩
   ·exact ⟨tp,e',Nat.le_refl _,fun _=>rfl⟩
 have hothers:∀ q x,q≠r→(q,x)∈s→holds (G.grown r n w.heap.size e ce lim vs) (World.pushed w' (.cells vs t)) q x:=fun q x hne hm=>by
  have ho:=h.holds q x hm
  cases x with
  |cells cs t'=>
   obtain ⟨b,us,e1,ro,hh,hc,hK⟩:=ho
   have hb:=(h.role b q ro).1
   exact ⟨b,us,e1,by simp only [Ghost.grown];rw [if_neg (by omega)];exact ro,by rw [hlt b hb];exact hh,relCs.mono le _ _ hc,fun o=>by simp only [Ghost.grown];rw [if_neg (by omega)];exact hK o⟩
  |map es=>
   obtain ⟨b,ents,cl,e1,ro,hh,hc⟩:=ho
   have hb:=(h.role b q ro).1
   exact ⟨b,ents,cl,e1,by simp only [Ghost.grown];rw [if_neg (by omega)];exact ro,by rw [hlt b hb];exact hh,relMap.mono le _ _ hc⟩
  |tok m=>
   obtain ⟨tp,e1,hn,hq⟩:=ho
   refine ⟨tp,by simp only [Ghost.grown];rw [if_neg hne];exact e1,hn,fun hlt'=>?_⟩
   obtain ⟨ro,us,t',hh,hc,hK⟩:=hq hlt'
   have hb:=(h.role _ q ro).1
   exact ⟨by simp only [Ghost.grown];rw [if_neg (by omega)];exact ro,us,t',by rw [hlt _ hb];exact hh,hc,fun o ho=>by simp only [Ghost.grown];rw [if_neg (by omega)];exact hK o ho⟩
  |void=>
   obtain ⟨h0,h1,h2,h3⟩:=ho
   exact ⟨Nat.lt_of_lt_of_le h0 hrl.2,h1,by simp only [Ghost.grown];rw [if_neg hne];exact h2,fun b=>by
    simp only [Ghost.grown]
    split
    ·simp;exact fun e=>hne e.symm
    ·exact h3 b⟩
  |loop L=>exact ho.move rfl le.to0 (fun b hr=>⟨by rw [hlt b (h.role b q hr).1],by simp only [Ghost.grown];rw [if_neg (by have:=(h.role b q hr).1;omega)];exact hr,fun o=>by simp only [Ghost.grown];rw [if_neg (by have:=(h.role b q hr).1;omega)]⟩)
  |row cs' sz' t''=>exact ho.move rfl le.to0 (fun b hr=>⟨by rw [hlt b (h.role b q hr).1],by simp only [Ghost.grown];rw [if_neg (by have:=(h.role b q hr).1;omega)];exact hr,fun o=>by simp only [Ghost.grown];rw [if_neg (by have:=(h.role b q hr).1;omega)]⟩)
 have hmine:holds (G.grown r n w.heap.size e ce lim vs) (World.pushed w' (.cells vs t)) r (.tok n):=by
  refine ⟨⟨n,w.heap.size,e,ce⟩,by simp [Ghost.grown],rfl,fun _=>⟨by simp [Ghost.grown],vs,t,hnew,hce,fun o ho=>?_⟩⟩
  simp only [Ghost.grown,if_true] at ho ⊢
  rw [if_neg (by omega)]
 have hsub:∀ q,q∈keys s'→q∈keys s∨G.lim≤q:=fun q hq=>by
  rcases hr with ⟨h1,_,rfl⟩|⟨_,_,rfl,_⟩
  ·simp only [keys,List.map_cons,List.mem_cons] at hq
   rcases hq with rfl|hq
   ·exact .inr h1
   ·exact .inl hq
  ·rw [hset_keys] at hq;exact .inl hq
 refine ⟨⟨fun b o v e'=>?_,?_,fun q x hq=>?_,fun q hq=>?_,fun b q e'=>?_⟩,⟨le,by simp only [World.pushed,Array.size_push];omega,fun b hb _=>⟨hlt b hb,by simp only [Ghost.grown];rw [if_neg (by omega)],fun o=>by simp only [Ghost.grown];rw [if_neg (by omega)]⟩,fun q tp e' hq=>?_,hrl.2,ho,ht,hp,fun q h0 hk h1 h2 h3=>by
  have hne:q≠r:=fun e=>by
   subst e
   rcases hr with ⟨h1,_⟩|⟨hk',_⟩
   ·omega
   ·exact hk hk'
  exact ⟨h1,by simp only [Ghost.grown];rw [if_neg hne];exact h2,fun b=>by
   simp only [Ghost.grown]
   split
   ·simp;exact fun e=>hne e.symm
   ·exact h3 b⟩⟩,hsub⟩
 ·simp only [Ghost.grown] at e'
  split at e'
  ·rename_i hb
   subst hb
   split at e'
   ·simp only [World.cell?,hnew,Option.isSome_none,Bool.false_eq_true,if_false];exact e'
   ·cases e'
  ·have h1:=h.kw b o v e'
   have hb:=h.K_lt e'
   simp only [World.cell?,hlt b hb] at h1 ⊢
   exact h1
 ·rcases hr with ⟨h1,_,rfl⟩|⟨_,_,rfl,_⟩
  ·simp only [keys,List.map_cons,List.nodup_cons]
   exact ⟨fun hm=>by have:=h.lt_key hm;omega,h.keys⟩
  ·rw [hset_keys];exact h.keys
 ·rcases hr with ⟨h1,_,rfl⟩|⟨_,_,rfl,_⟩
  ·rcases List.mem_cons.1 hq with hq1|hq1
   ·cases hq1;exact hmine
   ·have hk:q < G.lim:=h.lt_key (List.mem_map.2 ⟨_,hq1,rfl⟩)
    exact hothers q x (by omega) hq1
  ·rcases hset_mem h.keys hq with ⟨rfl,rfl⟩|⟨hne,hm⟩
   ·exact hmine
   ·exact hothers q x hne hm
 ·simp only [Ghost.grown] at hq ⊢
  have:=h.fresh q (by omega)
  rw [if_neg (by omega)]
  exact this
 ·simp only [Ghost.grown,World.pushed,Array.size_push] at e' ⊢
  split at e'
  ·rename_i hb;subst hb;cases e';exact ⟨by omega,hrl.1⟩
  ·have:=h.role b q e';omega
 ·simp only [Ghost.grown]
  rw [if_neg ?_]
  ·exact e'
  ·rintro rfl
   rcases hr with ⟨h1,_⟩|⟨h1,_⟩
   ·have:=h.lt_top e';omega
   ·exact hq h1
theorem zeroCells_size (z:Array Value) (n:Nat):(Builtin.zeroCells z n).size=n * z.size:=by simp [Builtin.zeroCells]
/-- The new row's elements. -/
theorem relAts_new {G G':Ghost} (le:G.Le G') {sz:Nat} {rd':Nat→Option Value} {l ys:List HV} {news rest:List Value} {olds:List Value}
  (ho:olds.length=l.length * sz) (hold:∀ (G':Ghost) (rd':Nat→Option Value) (o':Nat),G.Le G'→(∀ j,j < olds.length→rd' (o'+j)=olds[j]?)→relAts G' l rd' o' sz)
  (hn:news.length=ys.length * sz) (hnew:∀ (G':Ghost) (rd:Nat→Option Value) (o:Nat),G.Le G'→(∀ j,j < news.length→rd (o+j)=news[j]?)→relAts G' ys rd o sz)
  (hr:∀ j,j < (l.length+ys.length) * sz→rd' j=(olds ++ news ++ rest)[j]?):relAts G' (l ++ ys) rd' 0 sz:=by
 have hm:(l.length+ys.length) * sz=olds.length+news.length:=by rw [Nat.add_mul,ho,hn]
 refine relAts_append (hold G' rd' 0 le fun j hj=>?_) (hnew G' rd' _ le fun j hj=>?_)
 ·rw [Nat.zero_add,hr j (by omega),List.append_assoc,List.getElem?_append_left (by omega)]
 ·rw [Nat.zero_add,hr _ (by omega),←ho,List.append_assoc,List.getElem?_append_right (by omega),List.getElem?_append_left (by omega)]
  congr 1;omega
end
end Go.Proofs.Hk

namespace Go.Proofs.Hk
noncomputable section
open Go
theorem relCs_of {G:Ghost} : ∀ {l:List HV} {us:List Value},l.length=us.length→(∀ (i:Nat) (x:HV) (u:Value),l[i]? = some x→us[i]? = some u→x.kd = .one∧relC G x [u])→relCs G l us
 |[],[],_,_=>by simp [relCs]
 |[],_::_,h,_=>by simp at h
 |_::_,[],h,_=>by simp at h
 |x::l,u::us,h,k=>by
  simp only [relCs]
  exact ⟨u,us,rfl,k 0 x u rfl rfl,relCs_of (by simpa using h) fun i y v h1 h2=>k (i+1) y v (by simpa using h1) (by simpa using h2)⟩
theorem flatten_replicate_get {α:Type} (l:List α) (hl:0 < l.length):∀ (n i:Nat),(List.replicate n l).flatten[i]? = if i < n * l.length then l[i % l.length]? else none
 |0,i=>by simp
 |n+1,i=>by
  simp only [List.replicate_succ,List.flatten_cons]
  by_cases h:i < l.length
  ·rw [List.getElem?_append_left h,if_pos (by rw [Nat.succ_mul];omega),Nat.mod_eq_of_lt h]
  ·rw [List.getElem?_append_right (by omega),flatten_replicate_get l hl n]
   have e:(i - l.length) % l.length=i % l.length:=by
    conv=>rhs;rw [show i=(i - l.length)+l.length from by omega,Nat.add_mod_right]
   rw [e]
   have:(i - l.length < n * l.length)=(i < (n+1) * l.length):=by rw [Nat.succ_mul];simp;omega
   simp only [this]
theorem hrep_length (n:Nat) (l:List HV):(hrep n l).length=n * l.length:=by
 unfold hrep
 split
 ·simp
 ·simp
theorem hrep_eq (n:Nat) (l:List HV):hrep n l=(List.replicate n l).flatten:=by
 unfold hrep
 split
 ·rename_i z
  induction n with
  |zero=>rfl
  |succ n ih=>simp [List.replicate_succ,←ih]
 ·rfl
theorem rep_rel {G:Ghost} {z:HV} {d:Value} (hz:rel G z d) (hk:z.kd≠.tup) (n:Nat) (hs:0 < d.cells.size):relCs G (hrep n z.cells) ((Array.range (n * d.cells.size)).map (fun x=>d.cells[x % d.cells.size]!)).toList:=by
 have hc:=rel_cells hz hk
 have hl:=relCs_length hc
 simp only [Array.length_toList] at hl
 refine relCs_of (by rw [hrep_length];simp [hl]) fun i x u h1 h2=>?_
 rw [hrep_eq,flatten_replicate_get _ (by omega)] at h1
 split at h1
 ·rename_i hi
  have hm:i % d.cells.size < d.cells.size:=Nat.mod_lt _ hs
  rw [←hl] at h1
  obtain ⟨v,e,h3⟩:=relCs_get4 hc _ _ h1
  have:u=v:=by
   have e1:d.cells[i % d.cells.size]! = v:=by
    have:d.cells[i % d.cells.size]? = some v:=by simpa using e
    rw [getElem!_def,this]
   simp only [Array.toList_map,Array.toList_range,List.getElem?_map] at h2
   rw [List.getElem?_range (by rw [hl];exact hi)] at h2
   simp only [Option.map_some,Option.some.injEq] at h2
   rw [←h2,e1]
  subst this
  exact h3
 ·cases h1
theorem zero_ok0 (c:Cx) {G:Ghost} {t:TypeId} {z:HV} (h:hzero c t=some z):∃ d,c.ty t=some d∧rel G z d.zero:=by
 unfold hzero at h
 split at h
 ·cases h
 ·rename_i d hd
  refine ⟨d,hd,?_⟩
  split at h
  ·rename_i cs hz
   split at h
   ·rename_i hone
    cases h
    rw [hz]
    simpa using rel_agg (relCs_map_v G cs.toList fun u hu=>by
     have:=(List.all_eq_true.1 hone) u hu
     cases u<;>first|rfl|cases this)
   ·cases h
  ·cases h
  ·rename_i v h1 h2
   cases h
   exact rel_v G (h:=by
    cases hv:d.zero<;>first|rfl|exact absurd hv (h1 _)|exact absurd hv (h2 _))
theorem relC_cells {G:Ghost} {x:HV} {cs:List Value} (h:relC G x cs) (hk:x.kd≠.tup):relCs G x.cells cs:=by
 by_cases ho:x.kd = .one
 ·obtain ⟨u,rfl,_⟩:=relC_one h ho
  have:x.cells=[x]:=by cases x<;>first|rfl|cases ho
  rw [this]
  simp only [relCs]
  exact ⟨u,[],rfl,⟨ho,h⟩,rfl⟩
 ·cases x with
  |agg l=>simpa [HV.cells,relC] using h
  |tup l=>exact absurd rfl hk
  |_=>exact absurd rfl ho
theorem relAts_flatMap {G:Ghost} {sz:Nat} {rd:Nat→Option Value} : ∀ {l:List HV} {o:Nat} {us:List Value},relAts G l rd o sz→us.length=l.length * sz→(∀ j,j < us.length→rd (o+j)=us[j]?)→relCs G (l.flatMap HV.cells) us
 |[],o,us,_,hl,_=>by
  have:us=[]:=List.length_eq_zero_iff.1 (by simpa using hl)
  subst this
  simp [relCs]
 |x::xs,o,us,h,hl,hr=>by
  simp only [relAts] at h
  obtain ⟨⟨cs,hc,hk,hx,hxr⟩,h2⟩:=h
  have hlen:(x::xs).length * sz=sz+xs.length * sz:=by rw [List.length_cons,Nat.succ_mul,Nat.add_comm]
  rw [hlen] at hl
  have e:us=cs ++ us.drop sz:=by
   refine List.ext_getElem? fun j=>?_
   by_cases hj:j < sz
   ·rw [List.getElem?_append_left (by omega),←hx j hj,hr j (by omega)]
   ·rw [List.getElem?_append_right (by omega),List.getElem?_drop,hc]
    congr 1;omega
  rw [e,List.flatMap_cons]
  refine relCs_append (relC_cells hxr hk) (relAts_flatMap h2 (by simp;omega) fun j hj=>?_)
  rw [Nat.add_assoc,hr (sz+j) (by simp at hj;omega),List.getElem?_drop]
end
end Go.Proofs.Hk

namespace Go.Proofs.Hk
noncomputable section
open Go
theorem more_ok (P:Program) {G:Ghost} {s:HS} {w:World} (hs:SRel G s w) {d:TyD} {y:HV} {v:Value} {ys:List HV} (hy:rel G y v) (h:hmore d y=some ys):∃ news,Src P G w d.size v ys news:=by
 unfold hmore at h
 split at h
 ·split at h
  ·rename_i hz
   cases h
   rw [←Nat.eq_of_beq_eq_true hz]
   exact src_list P hs hy
  ·cases h
 ·cases h
  rw [rel_v_eq hy]
  exact ⟨[],src_nil P G w d.size⟩
 ·split at h
  ·rename_i hz
   cases h
   rw [rel_v_eq hy,Nat.eq_of_beq_eq_true hz]
   exact ⟨_,src_string P G w _⟩
  ·cases h
 ·cases h
theorem sliceElem_ok {c:Cx} {t:TypeId} {d:TyD} (h:sliceElem c t=some d):∃ e,TyOK c.P e d∧∀ w,(underlying t).run c.P w = .ok (.slice e) w:=by
 unfold sliceElem at h
 split at h
 ·rename_i size bytes ag z e hd
  exact ⟨e,c.ty_ok e d h,fun w=>(c.ty_ok t _ hd).slice rfl⟩
 ·cases h
theorem isRow_ok {c:Cx} {t:TypeId} (h:isRow c t=true):∃ du,(du = .string∨∃ e',du = .slice e')∧∀ w,(underlying t).run c.P w = .ok du w:=by
 unfold isRow at h
 split at h
 ·rename_i size bytes ag z e hd
  exact ⟨_,.inr ⟨e,rfl⟩,fun w=>(c.ty_ok t _ hd).slice rfl⟩
 ·rename_i size bytes ag z hd
  exact ⟨_,.inl rfl,fun w=>(c.ty_ok t _ hd).string rfl⟩
 ·cases h
theorem hset_same {s:HS} {r:Nat} {x:Res} (h:hget s r=some x):hset s r x=s:=by
 induction s with
 |nil=>simp only [hset_nil]
 |cons p s ih=>
  obtain ⟨q,y⟩:=p
  simp only [hget_cons] at h
  simp only [hset_cons]
  split at h
  ·rename_i e;cases h;rw [if_pos e,e]
  ·rename_i e;rw [if_neg e,ih h]
/-- A row that is at its place as it is appended to: its cells. -/
theorem old_list {G:Ghost} {w:World} {s:HS} (P:Program) (hs:SRel G s w) {sz:Nat} {l:List HV} {b o:Nat} (ha:relAts G l (G.K b) o sz) :
  ∃ olds:List Value,olds.length=l.length * sz∧(∀ c w',w'.heap=w.heap→(Builtin.firstCells sz l.length (.slice (some ⟨b,o,none⟩) l.length c)).run P w' = .ok olds.toArray w')∧
   ∀ (G':Ghost) (rd':Nat→Option Value) (o':Nat),G.Le G'→(∀ j,j < olds.length→rd' (o'+j)=olds[j]?)→relAts G' l rd' o' sz:=by
 obtain ⟨olds,n1,n2,n3,n4⟩:=relAts_cells ha
 refine ⟨olds,n1,fun c w' hw=>?_,n4⟩
 refine run_firstCells_some w' sz l.length ⟨b,o,none⟩ l.length c olds n1 fun j u e=>?_
 rw [add_plain,cell_of_heap hw]
 have hj:=(List.getElem?_eq_some_iff.1 e).1
 have:=n2 j hj
 rw [e] at this
 exact hs.kw _ _ _ this
theorem new_size (d:TyD) {P:Program} {e:TypeId} (hd:TyOK P e d) {olds news:List Value} {n m cap:Nat} (ho:olds.length=n * d.size) (hn:news.length=m * d.size) (hc:n+m≤cap) :
  cap * d.size≤(olds.toArray ++ news.toArray ++ Builtin.zeroCells d.zero.cells (cap - (n+m))).size:=by
 simp only [Array.size_append,List.size_toArray,zeroCells_size,hd.zsize,ho,hn]
 rw [←Nat.add_mul,←Nat.add_mul]
 exact Nat.mul_le_mul_right _ (by omega)
/-- What a move to a new block gives. -/
theorem moved {c:Cx} {G:Ghost} {s s':HS} {w:World} (hs:SRel G s w) {t u ty e:TypeId} {d:TyD} {du:TypeDesc} (ht:∀ w:World,(underlying t).run c.P w = .ok (.slice e) w) (hu:∀ w:World,(underlying u).run c.P w = .ok du w) (hdu:du = .string∨∃ e',du = .slice e') (hd:TyOK c.P e d)
  {base:Option Addr} {l ys:List HV} {cp:Nat} {v:Value} {olds news:List Value}
  (hold:∀ w',w'.heap=w.heap→(Builtin.firstCells d.size l.length (.slice base l.length cp)).run c.P w' = .ok olds.toArray w') (hol:olds.length=l.length * d.size)
  (hor:∀ (G':Ghost) (rd':Nat→Option Value) (o':Nat),G.Le G'→(∀ j,j < olds.length→rd' (o'+j)=olds[j]?)→relAts G' l rd' o' d.size) (hsrc:Src c.P G w d.size v ys news)
  (hc:cp < l.length+ys.length) (hb:0 < d.bytes) (hfit:(l.length+ys.length) * d.bytes≤140737488355328)
  {r st n lim:Nat} (hst:st+(l.length+ys.length)=n)
  (hr:(G.lim≤r∧lim=r+1∧s'=(r,.tok n)::s)∨(r∈keys s∧lim=G.lim∧s'=hset s r (.tok n)∧∀ tp,G.top r=some tp→tp.n < n)) :
  Gives s G w ((do pure (Next.value (←Builtin.append_ #[t,u] ty #[.slice base l.length cp,v])):Sem Next).run c.P w) (.list (.own r st) d.size (l ++ ys)) s':=by
 have run:=run_append_new (ty:=ty) ht hu hdu hd hold hsrc hc hb hfit
 have hcap:=capOf_ge w (l.length+ys.length) cp e
 have hz:=new_size d hd hol hsrc.length hcap
 have post:=post_grown (w':=w.drew) (t:=e) hs rfl (e:=(l.length+ys.length) * d.size) rfl rfl rfl hr hz
 refine ⟨_,_,_,.inl (by rw [Sem.run_bind,run];rfl),?_,post⟩
 have hlen:(l ++ ys).length=l.length+ys.length:=List.length_append
 suffices key:rel (G.grown r n w.heap.size ((l.length+ys.length) * d.size) (capOf w (l.length+ys.length) cp e * d.size) lim (olds.toArray ++ news.toArray ++ Builtin.zeroCells d.zero.cells (capOf w (l.length+ys.length) cp e - (l.length+ys.length)))) (.list (.own r st) d.size (l ++ ys)) (.slice (some ⟨w.heap.size,0,none⟩) (l ++ ys).length (capOf w (l.length+ys.length) cp e)) by
  rwa [hlen] at key
 refine list_rel (by rw [hlen];exact hcap) (relAts_new post.ext.le (rest:=(Builtin.zeroCells d.zero.cells (capOf w (l.length+ys.length) cp e - (l.length+ys.length))).toList) hol hor hsrc.length hsrc.rel fun j hj=>?_) ?_
 ·simp only [Ghost.grown,if_true]
  rw [if_pos hj,←Array.getElem?_toList]
  simp
 ·refine ⟨⟨n,w.heap.size,(l.length+ys.length) * d.size,_⟩,by simp only [Ghost.grown,if_true];rfl,(show st+(l ++ ys).length≤n by omega),fun _=>.inl ⟨rfl,?_,?_⟩⟩
  ·simp [hlen]
  ·simp [hlen]
/-- The same, as a row to be written. -/
theorem movedArr {c:Cx} {G:Ghost} {s:HS} {w:World} (hs:SRel G s w) {t u ty e:TypeId} {d:TyD} {du:TypeDesc} (ht:∀ w:World,(underlying t).run c.P w = .ok (.slice e) w) (hu:∀ w:World,(underlying u).run c.P w = .ok du w) (hdu:du = .string∨∃ e',du = .slice e') (hd:TyOK c.P e d) (hce:c.ty e=some d) {z:HV} (hz:hzero c e=some z) (hkz:kdOk z=true) (hsz:0 < d.size)
  {base:Option Addr} {l ys:List HV} {cp:Nat} {v:Value} {olds news:List Value}
  (hold:∀ w',w'.heap=w.heap→(Builtin.firstCells d.size l.length (.slice base l.length cp)).run c.P w' = .ok olds.toArray w') (hol:olds.length=l.length * d.size)
  (hor:∀ (G':Ghost) (rd':Nat→Option Value) (o':Nat),G.Le G'→(∀ j,j < olds.length→rd' (o'+j)=olds[j]?)→relAts G' l rd' o' d.size) (hsrc:Src c.P G w d.size v ys news)
  (hc:cp < l.length+ys.length) (hb:0 < d.bytes) (hfit:(l.length+ys.length) * d.bytes≤140737488355328) :
  Gives s G w ((do pure (Next.value (←Builtin.append_ #[t,u] ty #[.slice base l.length cp,v])):Sem Next).run c.P w) (.arr G.lim 0 (l.length+ys.length) (capOf w (l.length+ys.length) cp e) d.size) ((G.lim,.cells ((l ++ ys).flatMap HV.cells ++ hrep (capOf w (l.length+ys.length) cp e - (l.length+ys.length)) z.cells) e)::s):=by
 have run:=run_append_new (ty:=ty) ht hu hdu hd hold hsrc hc hb hfit
 have p0:Post s G w s G w.drew:=Post.drawn hs rfl rfl rfl rfl
 have hs1:=p0.srel
 have hzs:=hd.zsize
 obtain ⟨d',hd',hzr⟩:=zero_ok0 c (G:=G) hz
 rw [hce] at hd'
 cases hd'
 have c1:relCs G (l.flatMap HV.cells) olds:=relAts_flatMap (rd:=fun j=>olds[j]?) (hor G _ 0 (.refl G) fun j _=>by rw [Nat.zero_add]) hol fun j _=>by rw [Nat.zero_add]
 have c2:relCs G (ys.flatMap HV.cells) news:=relAts_flatMap (rd:=fun j=>news[j]?) (hsrc.rel G _ 0 (.refl G) fun j _=>by rw [Nat.zero_add]) hsrc.length fun j _=>by rw [Nat.zero_add]
 have c3:=rep_rel hzr (kdOk_ne hkz) (capOf w (l.length+ys.length) cp e - (l.length+ys.length)) (by rw [hzs];exact hsz)
 refine ⟨_,_,G.newObj w.drew.heap.size,.inl (by rw [Sem.run_bind,run];rfl),rel_leaf (by simp only [relC];exact ⟨w.drew.heap.size,by simp [Ghost.newObj],rfl⟩) rfl,p0.trans hs (post_newObj hs1 _ _ ⟨w.drew.heap.size,_,by simp [Ghost.newObj],by simp [Ghost.newObj],pushed_new w.drew _,?_,fun o=>hs1.K_new (Nat.le_refl _) o⟩)⟩
 refine relCs.mono (Ghost.newObj_le hs1 _) _ _ ?_
 rw [List.flatMap_append]
 have:=relCs_append (relCs_append c1 c2) c3
 simpa [Builtin.zeroCells] using this
theorem append_ok (c:Cx) {s:HS} {G:Ghost} {w:World} (hs:SRel G s w) (t u:TypeId) {x y:HV} {p v:Value} (hx:rel G x p) (hy:rel G y v) (ty:TypeId) :
  ResOK c.P s G w ((do pure (Next.value (←Builtin.append_ #[t,u] ty #[p,v])):Sem Next).run c.P w) (happend c s t u x y):=by
 unfold happend
 split
 ·trivial
 ·rename_i d hse
  obtain ⟨e,hd,ht⟩:=sliceElem_ok hse
  split
  ·trivial
  ·rename_i hchk
   simp only [Bool.and_eq_true,Nat.blt_eq] at hchk
   obtain ⟨⟨hrow,hb⟩,hsz⟩:=hchk
   obtain ⟨du,hdu,hu⟩:=isRow_ok hrow
   split
   ·trivial
   ·rename_i ys hys
    obtain ⟨news,hsrc⟩:=more_ok c.P hs hy hys
    have grow:∀ {x:HV} {l:List HV} {base:Option Addr} {n:Nat} (hx:rel G x (.slice base n n)) (hn:n=l.length) (olds:List Value)
      (hold:∀ w',w'.heap=w.heap→(Builtin.firstCells d.size l.length (.slice base l.length l.length)).run c.P w' = .ok olds.toArray w') (hol:olds.length=l.length * d.size)
      (hor:∀ (G':Ghost) (rd':Nat→Option Value) (o':Nat),G.Le G'→(∀ j,j < olds.length→rd' (o'+j)=olds[j]?)→relAts G' l rd' o' d.size),
      ResOK c.P s G w ((do pure (Next.value (←Builtin.append_ #[t,u] ty #[.slice base n n,v])):Sem Next).run c.P w) (hgrow c s t d x l ys):=by
     intro x l base n hx hn olds hold hol hor
     subst hn
     rintro K ⟨hfit,hK⟩
     cases hyc:ys with
     |nil=>
      subst hyc
      exact ⟨x,s,hK,_,w,G,.inl (by rw [Sem.run_bind,run_append_none ht hu hdu hd hsrc (Nat.le_refl _)];rfl),hx,.refl hs⟩
     |cons y0 ys0=>
      have hK2:Grow2 (∀ r,r∉keys s→K (.list (.own r 0) d.size (l ++ ys)) ((r,.tok (l.length+ys.length))::s))
        (∃ e z,sliceElemT c t=some e∧hzero c e=some z∧kdOk z=true∧∀ r,r∉keys s→∀ cap,l.length+ys.length≤cap→K (.arr r 0 (l.length+ys.length) cap d.size) ((r,.cells ((l ++ ys).flatMap HV.cells ++ hrep (cap - (l.length+ys.length)) z.cells) e)::s)):=by
       rw [hyc] at hK ⊢;exact hK
      rcases hK2.out with hK'|⟨e',z,he',hz,hkz,hK'⟩
      rotate_left
      ·have hee:e'=e∧c.ty e=some d:=by
        unfold sliceElemT at he'
        unfold sliceElem at hse
        split at he'
        ·rename_i q1 q2 q3 q4 q5 hq
         cases he'
         rw [hq] at hse
         have h1:=(c.ty_ok t _ hq).slice (w:=w) rfl
         rw [ht w] at h1
         cases h1
         exact ⟨rfl,hse⟩
        ·cases he'
       obtain ⟨rfl,hce⟩:=hee
       exact ⟨_,_,hK' G.lim (fun hm=>by have:=hs.lt_key hm;omega) (capOf w (l.length+ys.length) l.length e') (capOf_ge _ _ _ _),movedArr hs ht hu hdu hd hce hz hkz hsz hold hol hor hsrc (by rw [hyc];simp) hb hfit⟩
      exact ⟨_,_,hK' G.lim (fun hm=>by have:=hs.lt_key hm;omega),moved hs ht hu hdu hd hold hol hor hsrc (by rw [hyc];simp) hb hfit (by omega) (.inl ⟨Nat.le_refl _,rfl,rfl⟩)⟩
    split
    ·have:=rel_v_eq hx
     subst this
     exact grow (l:=[]) hx rfl [] (fun w' _=>by simp [Builtin.firstCells]) (by simp) (fun _ _ _ _ _=>by simp only [relAts])
    ·rename_i sz l
     split
     ·rename_i hz
      have hz:=Nat.eq_of_beq_eq_true hz
      subst hz
      rcases rel_list hx with ⟨rfl,rfl,_⟩|⟨b,o,cp,rfl,hcp,ha,hcn⟩|⟨rfl,_,ad,rfl⟩
      ·exact grow (l:=[]) hx rfl [] (fun w' _=>by simp [Builtin.firstCells]) (by simp) (fun _ _ _ _ _=>by simp only [relAts])
      ·have hcn:cp=l.length:=hcn
       subst hcn
       obtain ⟨olds,o1,o2,o3⟩:=old_list c.P hs ha
       exact grow hx rfl olds (fun w' hw=>o2 _ w' hw) o1 o3
      ·exact grow (l:=[]) hx rfl [] (fun w' _=>run_firstCells_some w' _ 0 ad 0 0 [] (by simp) (fun j u e=>by simp at e)) (by simp) (fun _ _ _ _ _=>by simp only [relAts])
     ·trivial
    ·rename_i i st sz l
     split
     ·rename_i hz
      have hz:=Nat.eq_of_beq_eq_true hz
      subst hz
      intro rx hg
      cases rx with
      |tok n=>
       rintro K ⟨hn,hfit,hK⟩
       refine ⟨_,_,hK,?_⟩
       have hm:=hget_mem hg
       have hk:i∈keys s:=List.mem_map.2 ⟨_,hm,rfl⟩
       obtain ⟨tp,htp,htn,hown⟩:=hs.holds i _ hm
       have same:ys=[]→∀ {base cp},p = .slice base l.length cp→l.length≤cp→Gives s G w ((do pure (Next.value (←Builtin.append_ #[t,u] ty #[p,v])):Sem Next).run c.P w) (.list (.own i st) d.size (l ++ ys)) (hset s i (.tok (n+ys.length))):=by
        intro hnil base cp hp hcp
        subst hnil hp
        simp only [List.append_nil,List.length_nil,Nat.add_zero]
        rw [hset_same hg]
        exact ⟨_,w,G,.inl (by rw [Sem.run_bind,run_append_none ht hu hdu hd hsrc hcp];rfl),hx,.refl hs⟩
       have hne:ys≠[]→0 < ys.length:=fun h=>List.length_pos_iff.2 h
       rcases (rel_list hx).imp id or_comm.1 with ⟨rfl,rfl,_⟩|⟨_,hno,_⟩|⟨b,o,cp,rfl,hcp,ha,htok⟩
       ·by_cases hnil:ys=[]
        ·exact same hnil rfl (Nat.le_refl _)
        ·have h0:=hne hnil
         have:=moved (l:=[]) (olds:=[]) (cp:=0) (base:=none) (ty:=ty) hs ht hu hdu hd (fun w' _=>by simp [Builtin.firstCells]) (by simp) (fun _ _ _ _ _=>by simp only [relAts]) hsrc (by simpa using h0) hb (by simpa using hfit)
          (r:=i) (st:=st) (n:=n+ys.length) (lim:=G.lim) (s':=hset s i (.tok (n+ys.length))) (by simp at hn ⊢;omega) (.inr ⟨hk,rfl,rfl,fun tp' e'=>by rw [htp] at e';cases e';omega⟩)
         exact this
       ·exact absurd rfl (hno _ _)
       ·obtain ⟨olds,o1,o2,o3⟩:=old_list c.P hs ha
        by_cases hnil:ys=[]
        ·exact same hnil rfl hcp
        ·have h0:=hne hnil
         rcases Nat.lt_or_ge cp (l.length+ys.length) with hlt|hge
         ·exact moved hs ht hu hdu hd (fun w' hw=>o2 cp w' hw) o1 o3 hsrc hlt hb hfit (by omega) (.inr ⟨hk,rfl,rfl,fun tp' e'=>by rw [htp] at e';cases e';omega⟩)
         ·obtain ⟨tp',htp',_,hend⟩:=htok
          rw [htp] at htp'
          cases htp'
          obtain ⟨e1,e2,e3⟩:tp.b=b∧tp.e=o+l.length * d.size∧tp.ce=o+cp * d.size:=(hend (by omega)).resolve_right (fun h=>by omega)
          have hce:o+l.length * d.size+ys.length * d.size≤o+cp * d.size:=by
           rw [Nat.add_assoc,←Nat.add_mul];exact Nat.add_le_add_left (Nat.mul_le_mul_right _ hge) _
          have hpos:0 < ys.length * d.size:=Nat.mul_pos h0 hsz
          obtain ⟨ro,cur,tt,hh,hcur,hKn⟩:=hown (by omega)
          rw [e1] at ro hh hKn
          have hnl:=hsrc.length
          have run:=run_append_room' (ty:=ty) ht hu hdu hd (n:=l.length) (c:=cp) (o:=o) hh hsrc hge (by omega)
          let cur':=(cur.toList.take (o+l.length * d.size) ++ news ++ cur.toList.drop (o+l.length * d.size+news.length)).toArray
          let G':Ghost:={ G with K:=fun b' o'=>if b'=b∧tp.e≤o'∧o' < tp.e+news.length then cur'[o']? else G.K b' o',top:=fun q=>if q=i then some ⟨n+ys.length,b,tp.e+news.length,tp.ce⟩ else G.top q}
          have hcl:cur'.size=cur.size:=by simp [cur'];omega
          have hmid:∀ j,j < news.length→cur'[tp.e+j]? = news[j]?:=fun j hj=>by
           rw [←Array.getElem?_toList]
           simp only [cur']
           rw [List.append_assoc,List.getElem?_append_right (by simp;omega)]
           have hlt:(cur.toList.take (o+l.length * d.size)).length=tp.e:=by simp;omega
           rw [hlt,show tp.e+j - tp.e=j from by omega,List.getElem?_append_left hj]
          have hlow:∀ o',o' < tp.e→cur'[o']? = cur[o']?:=fun o' ho'=>by
           rw [←Array.getElem?_toList,←Array.getElem?_toList]
           simp only [cur']
           rw [List.append_assoc,List.getElem?_append_left (by simp;omega),List.getElem?_take_of_lt (by omega)]
          have le:G.Le G':=by
           refine ⟨fun b' o' v' e'=>?_,fun _ _ e'=>e',fun q tq e'=>?_,rfl⟩
           ·simp only [G']
            rw [if_neg ?_]
            ·exact e'
            ·rintro ⟨rfl,h1,_⟩
             rw [hKn o' h1] at e';cases e'
           ·simp only [G']
            split
            ·rename_i hq
             subst hq
             rw [htp] at e'
             cases e'
             exact ⟨_,rfl,by simp only [];omega,fun hq=>by simp only [] at hq;omega⟩
            ·exact ⟨tq,e',Nat.le_refl _,fun _=>rfl⟩
          have post:Post s G w (hset s i (.tok (n+ys.length))) G' (w.setRow b cur'):=by
           refine post_write hs hh ro hk ?_ le (fun b' hb' o'=>by simp only [G'];rw [if_neg (fun h=>hb' h.1)]) (fun o' v' e'=>?_) rfl rfl (fun q hq=>by simp only [G'];rw [if_neg hq]) rfl (setRow_size ..)
           ·refine ⟨⟨n+ys.length,b,tp.e+news.length,tp.ce⟩,by simp [G'],rfl,fun _=>⟨ro,cur',tt,setRow_heap w b cur _ tt _ hh,by rw [hcl];exact hcur,fun o' ho'=>?_⟩⟩
            simp only [G'] at ho' ⊢
            rw [if_neg (by omega)]
            exact hKn o' (by omega)
           ·simp only [G'] at e'
            split at e'
            ·exact e'
            ·rcases Nat.lt_or_ge o' tp.e with h1|h1
             ·have hcell:=hs.kw b o' v' e'
              simp only [World.cell?,hh,Option.isSome_none,Bool.false_eq_true,if_false] at hcell
              rw [hlow o' h1];exact hcell
             ·rw [hKn o' h1] at e';cases e'
          refine ⟨_,_,_,.inl (by rw [Sem.run_bind,run];rfl),?_,post⟩
          have hlen:(l ++ ys).length=l.length+ys.length:=List.length_append
          suffices key:rel G' (.list (.own i st) d.size (l ++ ys)) (.slice (some ⟨b,o,none⟩) (l ++ ys).length cp) by
           rwa [hlen] at key
          refine list_rel (by omega) (relAts_append (o3 G' _ o le fun j hj=>?_) (hsrc.rel G' _ _ le fun j hj=>?_)) ?_
          ·obtain ⟨olds',q1,q2,_,_⟩:=relAts_cells ha
           simp only [G']
           rw [if_neg (by omega)]
           have hqq:olds=olds':=by
            have a1:=o2 cp w rfl
            have a2:=run_firstCells_some (P:=c.P) w d.size l.length ⟨b,o,none⟩ l.length cp olds' q1 (fun j u e=>by
             rw [add_plain]
             have hj:=(List.getElem?_eq_some_iff.1 e).1
             have:=q2 j hj
             rw [e] at this
             exact hs.kw _ _ _ this)
            rw [a1] at a2
            simpa using a2
           rw [hqq] at hj ⊢
           exact q2 j hj
          ·simp only [G']
           rw [if_pos ⟨trivial,by omega,by omega⟩,←e2]
           exact hmid j hj
          ·refine ⟨⟨n+ys.length,b,tp.e+news.length,tp.ce⟩,by simp [G'],(show st+(l ++ ys).length≤n+ys.length by omega),fun _=>.inl ⟨rfl,?_,e3⟩⟩
           simp only [hlen,e2,hnl,Nat.add_mul];omega
      |void=>trivial
      |loop L=>trivial
      |row cs' sz' t''=>trivial
      |cells cs t'=>trivial
      |map es=>trivial
     ·trivial
    ·trivial
end
end Go.Proofs.Hk

namespace Go.Proofs.Hk
noncomputable section
open Go
theorem run_sliceBound {P:Program} {w:World} {k:IntKind} {n:Int} {y:Nat} {code:BoundsCode} (h0:0≤n) (h1:n.toNat≤y):(Instr.sliceBound (.int k n) y code).run P w = .ok n.toNat w:=by
 simp only [Instr.sliceBound,asIntOf,pure_bind]
 rw [if_pos ⟨h0,by omega⟩]
 rfl
def BoundRun (P:Program) (w:World) (u:Option Value) (dflt n:Nat):Prop:=
 match u with
 |none=>n=dflt
 |some v=>∀ y code,n≤y→(Instr.sliceBound v y code).run P w = .ok n w
/-- What a bound comes to. -/
theorem hbound_ok {P:Program} {s:HS} {G:Ghost} {w:World} {r:Result Next} {x:Option HV} {u:Option Value} {dflt:Nat} {k:Prop→Nat→OpRes}
  (hx:match x,u with|none,none=>True|some v,some u=>rel G v u|_,_=>False)
  (h:∀ (p:Prop) (n:Nat),(p→BoundRun P w u dflt n)→ResOK P s G w r (k p n)):ResOK P s G w r (hbound x dflt k):=by
 unfold hbound
 split
 ·cases u with
  |none=>exact h _ _ fun _=>rfl
  |some u=>exact hx.elim
 ·rename_i kd n
  cases u with
  |none=>exact hx.elim
  |some u=>
   have:=rel_v_eq hx
   subst this
   exact h _ _ fun h0 y code hy=>run_sliceBound h0 hy
 ·trivial
theorem tokCut_rel {G:Ghost} {t:Tok} {sz n b o c:Nat} (h:tokRel G t sz n b o c) (hn:n≤c) {lo hi:Nat} (hlo:lo≤hi) (hhi:hi≤n) {whole most:Bool} {m:Nat} (hw:whole=true→hi=n) (hm:most=true→m=hi) (hm':most=false→m=c) {o':Nat} (ho:o'=if m=lo then o else o+lo * sz) :
  tokRel G (t.cut lo whole most) sz (hi - lo) b o' (m - lo):=by
 cases most with
 |true=>
  show m - lo=hi - lo
  rw [hm rfl]
 |false=>
  have hmc:=hm' rfl
  subst hmc
  cases t with
  |no=>trivial
  |full=>
   cases whole with
   |false=>trivial
   |true=>
    show m - lo=hi - lo
    have:m=n:=h
    rw [hw rfl,this]
  |own i st=>
   obtain ⟨tp,e,h1,h2⟩:=h
   refine ⟨tp,e,by omega,fun hq=>?_⟩
   have hin:hi=n:=by omega
   have h2:=h2 (by omega)
   subst hin
   rcases h2 with ⟨q1,q2,q3⟩|⟨q1,q2⟩
   ·by_cases hml:m=lo
    ·have:hi=lo:=by omega
     have hmh:m=hi:=by omega
     refine .inr ⟨?_,by omega⟩
     rw [q2,q3,hmh]
    ·rw [if_neg hml] at ho
     subst ho
     refine .inl ⟨q1,?_,?_⟩
     ·rw [q2,Nat.add_assoc,←Nat.add_mul];congr 2;omega
     ·rw [q3,Nat.add_assoc,←Nat.add_mul];congr 2;omega
   ·exact .inr ⟨q1,by omega⟩
theorem tokCut_nil {G:Ghost} {t:Tok} (h:tokNil G t) {whole most:Bool} : tokNil G (t.cut 0 whole most):=by
 cases most with
 |true=>trivial
 |false=>
  cases t with
  |no=>trivial
  |full=>cases whole<;>trivial
  |own i st=>exact h
theorem relAts_cut {G:Ghost} {sz:Nat} {rd:Nat→Option Value} {l:List HV} {o lo hi m:Nat} (h:relAts G l rd o sz) (hlo:lo≤hi) (hhi:hi≤l.length) (hm:hi≤m):relAts G ((l.take hi).drop lo) rd (if m=lo then o else o+lo * sz) sz:=by
 split
 ·have:hi=lo:=by omega
  subst this
  rw [List.drop_of_length_le (by simp;omega)]
  simp only [relAts]
 ·exact relAts_drop lo (relAts_take hi h)
/-- A row, cut. -/
theorem list_cut {P:Program} {G:Ghost} {w:World} {t:TypeId} {d:TyD} {e:TypeId} (hu:∀ w,(underlying t).run P w = .ok (.slice e) w) (hd:TyOK P e d) {tk:Tok} {xs:List HV} {u:Value} (hx:rel G (.list tk d.size xs) u)
  {ul uh um:Option Value} {l h:Nat} (hl:l≤h) (hh:h≤xs.length) (whole most:Bool) (hw:whole=true→h=xs.length)
  (hb:∀ cp,xs.length≤cp→∃ m,(Instr.sliceBounds true xs.length cp ul uh um).run P w = .ok (l,h,m) w∧h≤m∧(most=true→m=h)∧(most=false→m=cp)) :
  ∃ v,(Instr.slice t u ul uh um).run P w = .ok v w∧rel G (.list (tk.cut l whole most) d.size ((xs.take h).drop l)) v:=by
 have hlen:((xs.take h).drop l).length=h - l:=by simp;omega
 rcases (rel_list hx).imp id or_comm.1 with ⟨rfl,rfl,htn⟩|⟨rfl,hno,ad,rfl⟩|⟨b,o,cp,rfl,hcp,ha,htok⟩
 ·obtain ⟨m,h1,h2,h3,h4⟩:=hb 0 (Nat.le_refl _)
  have hh0:h=0:=by simpa using hh
  have hl0:l=0:=by omega
  subst hh0 hl0
  have hm0:m=0:=by
   cases most with
   |false=>exact h4 rfl
   |true=>exact h3 rfl
  subst hm0
  refine ⟨.slice none 0 0,?_,?_⟩
  ·simp only [List.length_nil] at h1
   simp [Instr.slice,hu,h1,hd.sizeOf]
  ·simpa using list_rel_nil (tokCut_nil htn)
 ·obtain ⟨m,h1,h2,h3,h4⟩:=hb 0 (Nat.le_refl _)
  have hh0:h=0:=by simpa using hh
  have hl0:l=0:=by omega
  subst hh0 hl0
  have hm0:m=0:=by
   cases most with
   |false=>exact h4 rfl
   |true=>exact h3 rfl
  subst hm0
  simp only [List.length_nil] at h1
  refine ⟨.slice (some ad) 0 0,?_,?_⟩
  ·simp [Instr.slice,hu,h1,hd.sizeOf]
  ·refine list_rel_odd ad fun i st=>?_
   cases most with
   |true=>simp [Tok.cut]
   |false=>
    cases tk with
    |no=>simp [Tok.cut]
    |full=>cases whole<;>simp [Tok.cut]
    |own i' st'=>exact absurd rfl (hno _ _)
 ·obtain ⟨m,h1,h2,h3,h4⟩:=hb cp hcp
  refine ⟨.slice (some ⟨b,if m=l then o else o+l * d.size,none⟩) (h - l) (m - l),?_,?_⟩
  ·simp only [Instr.slice,Sem.run_bind,hu,Result.andThen_ok,h1,hd.sizeOf,Sem.run_pure]
   split<;>simp [add_plain]
  ·have:=list_rel (t:=tk.cut l whole most) (c:=m - l) (by rw [hlen];omega) (relAts_cut ha hl hh h2) (by rw [hlen];exact tokCut_rel htok hcp hl hh hw h3 h4 rfl)
   rwa [hlen] at this
theorem slice_ok (c:Cx) {s:HS} {G:Ghost} {w:World} (hs:SRel G s w) (t:TypeId) {x:HV} {u:Value} {lo hi mx:Option HV} {ul uh um:Option Value} (hx:rel G x u)
  (hlo:match lo,ul with|none,none=>True|some v,some u=>rel G v u|_,_=>False) (hhi:match hi,uh with|none,none=>True|some v,some u=>rel G v u|_,_=>False) (hmx:match mx,um with|none,none=>True|some v,some u=>rel G v u|_,_=>False) :
  ResOK c.P s G w ((do pure (Next.value (←Instr.sliceAt t u ul uh um)):Sem Next).run c.P w) (hslice c t x lo hi mx):=by
 have fin:∀ {y:HV} {v:Value} {du:TypeDesc},(∀ w,(underlying t).run c.P w = .ok du w)→(du = .string∨∃ e',du = .slice e')→(Instr.slice t u ul uh um).run c.P w = .ok v w→rel G y v→Gives s G w ((do pure (Next.value (←Instr.sliceAt t u ul uh um)):Sem Next).run c.P w) y s:=fun {y v du} hu hdu h1 h2=>
  ⟨_,w,G,.inl (by
   have hat:(Instr.sliceAt t u ul uh um).run c.P w=(Instr.slice t u ul uh um).run c.P w:=by
    unfold Instr.sliceAt
    rw [Sem.run_bind,hu w,Result.andThen_ok]
    rcases hdu with rfl|⟨e',rfl⟩<;>rfl
   rw [Sem.run_bind,hat,h1];rfl),h2,.refl hs⟩
 unfold hslice
 split
 ·rename_i size bytes ag z hd
  have hu:=fun w=>(c.ty_ok t _ hd).string (w:=w) rfl
  split
  ·rename_i b
   have:=rel_v_eq hx
   subst this
   cases um with
   |some _=>exact hmx.elim
   |none=>
    refine hbound_ok hhi fun p2 h eh=>hbound_ok hlo fun p1 l el=>?_
    rintro ⟨h1,h2,h3,h4⟩
    refine fin (y:=.v (.string (b.extract l h))) hu (.inl rfl) ?_ (rel_v G)
    have hb:(Instr.sliceBounds false b.size b.size ul uh none).run c.P w = .ok (l,h,b.size) w:=by
     have el:=el h1
     have eh:=eh h2
     cases ul<;>cases uh<;>simp only [BoundRun] at el eh<;>(try subst el)<;>(try subst eh)<;>simp [Instr.sliceBounds, *]
    simp [Instr.slice,hu,hb]
  ·trivial
 ·rename_i size bytes ag z e hd
  have hu:=fun w=>(c.ty_ok t _ hd).slice (w:=w) rfl
  split
  ·trivial
  ·rename_i d he
   have hte:=c.ty_ok e d he
   split
   ·rename_i tk sz xs
    split
    ·trivial
    ·rename_i hz
     have hz:=Nat.eq_of_beq_eq_true hz
     subst hz
     split
     ·cases um with
      |some _=>exact hmx.elim
      |none=>
       refine hbound_ok hlo fun p1 l el=>?_
       split
       ·cases uh with
        |some _=>exact hhi.elim
        |none=>
         rintro ⟨h1,h2⟩
         obtain ⟨v,v1,v2⟩:=list_cut (w:=w) (ul:=ul) (uh:=none) (um:=none) hu hte hx h2 (Nat.le_refl _) true false (fun _=>rfl) (fun cp hcp=>by
          refine ⟨cp,?_,hcp,by simp,fun _=>rfl⟩
          have el:=el h1
          cases ul<;>simp only [BoundRun] at el<;>simp [Instr.sliceBounds,el,h2])
         rw [List.take_length] at v2
         exact fin hu (.inr ⟨e,rfl⟩) v1 v2
       ·rename_i hi'
        cases uh with
        |none=>exact hhi.elim
        |some uh=>
         refine hbound_ok (u:=some uh) hhi fun p2 h eh=>?_
         rintro ⟨h1,h2,h3,h4⟩
         obtain ⟨v,v1,v2⟩:=list_cut (w:=w) (ul:=ul) (uh:=some uh) (um:=none) hu hte hx h3 h4 false false (fun h=>by cases h) (fun cp hcp=>by
          refine ⟨cp,?_,by omega,by simp,fun _=>rfl⟩
          have hq:h≤cp:=by omega
          have el:=el h1
          have eh:=eh h2
          simp only [BoundRun] at eh
          cases ul<;>simp only [BoundRun] at el<;>simp [Instr.sliceBounds,el,eh,h3,hq])
         exact fin hu (.inr ⟨e,rfl⟩) v1 v2
     ·rename_i mx'
      split
      ·trivial
      ·rename_i hi'
       cases um with
       |none=>exact hmx.elim
       |some um=>
        cases uh with
        |none=>exact hhi.elim
        |some uh=>
         refine hbound_ok (u:=some um) hmx fun p3 m em=>hbound_ok (u:=some uh) hhi fun p2 h eh=>hbound_ok hlo fun p1 l el=>?_
         rintro ⟨h1,h2,h3,h4,h5,h6⟩
         obtain ⟨v,v1,v2⟩:=list_cut (w:=w) (ul:=ul) (uh:=some uh) (um:=some um) hu hte hx h4 h6 false true (fun h=>by cases h) (fun cp hcp=>by
          refine ⟨m,?_,by omega,fun _=>h5,by simp⟩
          have hq:m≤cp:=by omega
          have hq2:h≤m:=by omega
          have el:=el h1
          have eh:=eh h2
          have em:=em h3
          simp only [BoundRun] at eh em
          cases ul<;>simp only [BoundRun] at el<;>simp [Instr.sliceBounds,el,eh,em,h4,hq,hq2])
         exact fin hu (.inr ⟨e,rfl⟩) v1 v2
   ·rename_i r off len cap sz
    split
    ·split
     ·trivial
     ·rename_i hz
      have hz:=Nat.eq_of_beq_eq_true hz
      subst hz
      obtain ⟨b,ho,rfl⟩:=rel_arr hx
      cases um with
      |some _=>exact hmx.elim
      |none=>
       refine hbound_ok hhi fun p2 h eh=>hbound_ok hlo fun p1 l el=>?_
       rintro ⟨h1,h2,h3,h4,h5,h6⟩
       refine fin (y:=.arr r (off+l * d.size) (h - l) (cap - l) d.size) hu (.inr ⟨e,rfl⟩) (v:=.slice (some ⟨b,off+l * d.size,none⟩) (h - l) (cap - l)) ?_ (arr_rel ho)
       have hb:(Instr.sliceBounds true len cap ul uh none).run c.P w = .ok (l,h,cap) w:=by
        have hq:h≤cap:=by omega
        have el:=el h1
        have eh:=eh h2
        cases ul<;>cases uh<;>simp only [BoundRun] at el eh<;>(try subst el)<;>(try subst eh)<;>simp [Instr.sliceBounds, *]
       have hne:¬ cap=l:=by omega
       simp [Instr.slice,hu,hb,hte.sizeOf,hne,add_plain]
    ·trivial
   ·trivial
 ·trivial
end
end Go.Proofs.Hk

namespace Go.Proofs.Hk
noncomputable section
open Go
theorem run_makeSlice {P:Program} {w:World} {t e:TypeId} {d:TyD} (ht:(underlying t).run P w = .ok (.slice e) w) (hd:TyOK P e d) {k k':IntKind} {n c:Int} (h0:0≤n) (h1:n≤c) (h2:c < 9223372036854775808) (h3:c.toNat * d.bytes≤70368744177664) (hs:0 < d.size) (hb:0 < d.bytes) :
  (Instr.makeSlice t (.int k n) (.int k' c)).run P w = .ok (.slice (some ⟨w.heap.size,0,none⟩) n.toNat c.toNat) (World.pushed w (.cells ((Array.range (c.toNat * d.size)).map (fun x=>d.zero.cells[x % d.zero.cells.size]!)) e)):=by
 obtain ⟨i,hi,hi1,hi2,hi3⟩:=hd.info (w:=w)
 have w1:IntKind.i64.wrap n=n:=IntWalk.i64_in _ (by omega)
 have w2:IntKind.i64.wrap c=c:=IntWalk.i64_in _ (by omega)
 have hc:((c.toNat:Nat):Int)=c:=by omega
 have big:∀ m:Int,m < 0∨(d.bytes:Int) * m > 2 ^ 48→¬ (0≤m∧m≤c):=fun m hm hq=>by
  rcases hm with hm|hm
  ·omega
  ·have a1:(d.bytes:Int) * m≤d.bytes * c:=Int.mul_le_mul_of_nonneg_left hq.2 (by omega)
   have a2:(d.bytes:Int) * c=((c.toNat * d.bytes:Nat):Int):=by rw [Int.natCast_mul,hc,Int.mul_comm]
   omega
 have b1:(decide (c < 0)||decide ((d.bytes:Int) * c > 2 ^ 48))=false:=by
  cases hx:(decide (c < 0)||decide ((d.bytes:Int) * c > 2 ^ 48)) with
  |false=>rfl
  |true=>exact absurd ⟨by omega,by omega⟩ (big c (by simpa using hx))
 have hz:=hd.zero (w:=w)
 have hsz:=hd.sizeOf (w:=w)
 have ai:(asInt (.int k n)).run P w = .ok n w:=rfl
 have ai':(asInt (.int k' c)).run P w = .ok c w:=rfl
 simp only [Instr.makeSlice,Sem.run_bind,ht,Result.andThen_ok,ai,ai',hi,w1,w2,hi2,b1]
 rw [if_neg (by simp;omega)]
 have r1:¬ c.toNat * d.bytes > roomBytes:=by unfold roomBytes;omega
 simp only [askRoom,if_neg r1,Sem.run_bind,Sem.run_pure,Result.andThen_ok,hsz]
 by_cases hn:c.toNat * d.size=0
 ·rw [if_pos hn]
  have e0:Array.range 0 = #[]:=Array.eq_empty_of_size_eq_zero (by simp)
  simp [newRow,Go.newObj,Sem.run,World.pushed,hn,e0]
 ·rw [if_neg hn]
  simp only [Sem.run_bind,hz,Sem.run_pure,Result.andThen_ok]
  simp [newRow,Go.newObj,Sem.run,World.pushed]
theorem makeSlice_ok (c:Cx) {s:HS} {G:Ghost} {w:World} (hs:SRel G s w) (t:TypeId) (own:Bool) {x y:HV} {u v:Value} (hx:rel G x u) (hy:rel G y v) :
  ResOK c.P s G w ((do pure (Next.value (←Instr.makeSlice t u v)):Sem Next).run c.P w) (hmakeSlice c s t own x y):=by
 unfold hmakeSlice
 split
 ·trivial
 ·rename_i e he
  have ht:(underlying t).run c.P w = .ok (.slice e) w:=by
   unfold sliceElemT at he
   split at he
   ·rename_i e' hd
    cases he
    exact (c.ty_ok t _ hd).slice rfl
   ·cases he
  split
  ·rename_i d z hd hz
   have hdo:=c.ty_ok e d hd
   obtain ⟨d',hd',hzr⟩:=zero_ok0 c (G:=G) hz
   rw [hd] at hd'
   cases hd'
   split
   ·trivial
   ·rename_i hchk
    simp only [Bool.and_eq_true,Nat.blt_eq] at hchk
    obtain ⟨⟨hsz,hb⟩,hk⟩:=hchk
    have hk:=kdOk_ne hk
    split
    ·rename_i k n k' m
     have e1:=rel_v_eq hx
     have e2:=rel_v_eq hy
     subst e1 e2
     split
     ·rintro K ⟨⟨h0,h1,h2⟩,hK⟩
      subst h0
      have run:=run_makeSlice (k:=k) (k':=k') ht hdo (n:=0) (c:=m) (Int.le_refl _) h1 (by
       have:m.toNat * 1≤m.toNat * d.bytes:=Nat.mul_le_mul_left _ hb
       omega) h2 hsz hb
      have hzs:=hdo.zsize
      refine ⟨_,_,hK G.lim (fun hm=>by have:=hs.lt_key hm;omega),_,_,G.grown G.lim 0 w.heap.size 0 (m.toNat * d.size) (G.lim+1) _,.inl (by rw [Sem.run_bind,run];rfl),?_,post_grown hs rfl rfl rfl rfl (.inl ⟨Nat.le_refl _,rfl,rfl⟩) (by simp)⟩
      refine list_rel (by simp) (by simp only [relAts]) ?_
      refine ⟨⟨0,w.heap.size,0,_⟩,by simp only [Ghost.grown,if_true];rfl,by simp,fun _=>.inl ⟨rfl,by simp,by simp⟩⟩
     ·rintro K ⟨⟨h0,h1,h2⟩,hK⟩
      have run:=run_makeSlice (k:=k) (k':=k') ht hdo (n:=n) (c:=m) h0 h1 (by
       have:m.toNat * 1≤m.toNat * d.bytes:=Nat.mul_le_mul_left _ hb
       omega) h2 hsz hb
      have hzs:=hdo.zsize
      refine ⟨_,_,hK G.lim (fun hm=>by have:=hs.lt_key hm;omega),_,_,G.newObj w.heap.size,.inl (by rw [Sem.run_bind,run];rfl),?_,post_newObj hs _ _ ⟨w.heap.size,_,by simp [Ghost.newObj],by simp [Ghost.newObj],pushed_new w _,?_,fun o=>hs.K_new (Nat.le_refl _) o⟩⟩
      ·exact rel_leaf (by simp only [relC];exact ⟨w.heap.size,by simp [Ghost.newObj],rfl⟩) rfl
      ·have:=rep_rel hzr hk m.toNat (by rw [hzs];exact hsz)
       rw [hzs] at this
       simp only [hzs]
       exact relCs.mono (Ghost.newObj_le hs _) _ _ this
    ·trivial
  ·trivial
end
end Go.Proofs.Hk

namespace Go.Proofs.Hk
noncomputable section
open Go
def valOf:HV→Value
 |.v x=>x
 |_=>undef
theorem isU8_eq {x:HV} (h:isU8 x=true):∃ n,x = .v (.int .u8 n):=by
 cases x with
 |v y=>
  cases y with
  |int k n=>cases k<;>first|exact ⟨n,rfl⟩|cases h
  |_=>cases h
 |_=>cases h
theorem relAts_u8 {G:Ghost} {rd:Nat→Option Value} : ∀ {l:List HV} {o:Nat},relAts G l rd o 1→l.all isU8=true→∀ j,j < l.length→rd (o+j)=(l.map valOf)[j]?
 |[],o,_,_,j,hj=>by simp at hj
 |x::xs,o,h,hu,j,hj=>by
  simp only [relAts] at h
  obtain ⟨⟨cs,hc,_,hr,hx⟩,h2⟩:=h
  simp only [List.all_cons,Bool.and_eq_true] at hu
  obtain ⟨n,rfl⟩:=isU8_eq hu.1
  cases j with
  |zero=>
   simp only [relC] at hx
   have:=hr 0 (by omega)
   rw [hx.1] at this
   simpa [valOf] using this
  |succ j=>
   have:=relAts_u8 h2 hu.2 j (by simpa using hj)
   rw [show o+1+j=o+(j+1) from by omega] at this
   simpa using this
theorem relCs_u8 {G:Ghost} : ∀ {l:List HV} {us:List Value},relCs G l us→l.all isU8=true→us=l.map valOf
 |[],us,h,_=>by simpa [relCs] using h
 |x::xs,us,h,hu=>by
  simp only [relCs] at h
  obtain ⟨u,us',rfl,h1,h2⟩:=h
  simp only [List.all_cons,Bool.and_eq_true] at hu
  obtain ⟨n,rfl⟩:=isU8_eq hu.1
  have:=leaf_v h1.2
  subst this
  rw [relCs_u8 h2 hu.2]
  rfl
theorem run_pushes {P:Program} {w:World} (f:Value→ByteArray→Sem (ForInStep ByteArray)) (hf:∀ n s,f (.int .u8 n) s=pure (ForInStep.yield (s.push (UInt8.ofNat n.toNat)))):∀ (l:List HV) (s:ByteArray),l.all isU8=true→
  (forIn (l.map valOf) s f:Sem ByteArray).run P w = .ok ⟨s.data ++ (l.map byteOf).toArray⟩ w
 |[],s,_=>by simp [Sem.run_pure]
 |x::xs,s,hu=>by
  simp only [List.all_cons,Bool.and_eq_true] at hu
  obtain ⟨n,rfl⟩:=isU8_eq hu.1
  simp only [List.map_cons,valOf,List.forIn_cons,hf,pure_bind]
  rw [run_pushes f hf xs _ hu.2]
  simp [byteOf,ByteArray.push]
theorem run_bytesStr {P:Program} {w:World} {b o c:Nat} {l:List HV} (hu:l.all isU8=true) (h:∀ j,j < l.length→w.cell? ⟨b,o+j,none⟩=(l.map valOf)[j]?) :
  (Conv.bytesToString (.slice (some ⟨b,o,none⟩) l.length c)).run P w = .ok (.string ⟨(l.map byteOf).toArray⟩) w:=by
 have hl:=run_cells (P:=P) (w:=w) (b:=b) (o:=o) (xs:=l.map valOf) (by simpa using h)
 rw [List.length_map] at hl
 simp only [Conv.bytesToString,Sem.run_bind,hl,Result.andThen_ok]
 simp only [List.forIn_toArray]
 rw [run_pushes _ (fun _ _=>rfl) l _ hu]
 simp [Result.andThen_ok,Sem.run_pure]
theorem isBytes_ok {c:Cx} {t:TypeId} {w:World} (h:isBytes c t=true):∃ e,(underlying t).run c.P w = .ok (.slice e) w∧(underlying e).run c.P w = .ok (.int .u8) w:=by
 unfold isBytes at h
 split at h
 ·cases h
 ·rename_i e he
  split at h
  ·rename_i hd
   refine ⟨e,?_,(c.ty_ok e _ hd).int rfl⟩
   unfold sliceElemT at he
   split at he
   ·rename_i e' hd'
    cases he
    exact (c.ty_ok t _ hd').slice rfl
   ·cases he
  ·cases h
theorem bytesStr_ok (c:Cx) {s:HS} {G:Ghost} {w:World} (hs:SRel G s w) {src dst:TypeId} (hsrc:isBytes c src=true) (hdst:(underlying dst).run c.P w = .ok .string w) {x:HV} {u:Value} (hx:rel G x u) :
  ResOK c.P s G w ((do pure (Next.value (←convert src dst u)):Sem Next).run c.P w) (hbytesStr x):=by
 obtain ⟨e,h1,h2⟩:=isBytes_ok (w:=w) hsrc
 have conv:∀ u,(∃ a n m,u = .slice a n m)→∀ v,(Conv.bytesToString u).run c.P w = .ok v w→(do pure (Next.value (←convert src dst u)):Sem Next).run c.P w = .ok (.value v) w:=by
  rintro u ⟨a,n,m,rfl⟩ v hv
  have:(convert src dst (.slice a n m)).run c.P w = .ok v w:=by
   cases a<;>simp only [convert,Sem.run_bind,h1,hdst,h2,Result.andThen_ok,hv]
  simp only [Sem.run_bind,this,Result.andThen_ok,Sem.run_pure]
 unfold hbytesStr
 split
 ·have:=rel_v_eq hx
  subst this
  exact ⟨_,w,G,.inl (conv _ ⟨_,_,_,rfl⟩ (.string .empty) (by simp [Conv.bytesToString,Sem.run_pure])),rel_v G,.refl hs⟩
 ·rename_i tk sz l
  rintro ⟨rfl,hu⟩
  rcases (rel_list hx).imp id or_comm.1 with ⟨rfl,rfl,_⟩|⟨rfl,_,a,rfl⟩|⟨b,o,cp,rfl,hcp,ha,_⟩
  ·exact ⟨_,w,G,.inl (conv _ ⟨_,_,_,rfl⟩ (.string .empty) (by simp [Conv.bytesToString,Sem.run_pure])),rel_v G,.refl hs⟩
  ·have hl:(loadCells a 0).run c.P w = .ok #[] w:=by
    have:=run_firstCells_some (P:=c.P) w 1 0 a 0 0 [] (by simp) (fun j u e=>by simp at e)
    simpa [Builtin.firstCells] using this
   exact ⟨_,w,G,.inl (conv _ ⟨_,_,_,rfl⟩ (.string .empty) (by simp only [Conv.bytesToString,Sem.run_bind,hl,Result.andThen_ok];simp [Sem.run_pure])),rel_v G,.refl hs⟩
  ·have hr:=relAts_u8 ha hu
   refine ⟨_,w,G,.inl (conv _ ⟨_,_,_,rfl⟩ _ (run_bytesStr hu fun j hj=>?_)),rel_v G,.refl hs⟩
   have:=hr j hj
   rw [List.getElem?_eq_getElem (by simpa using hj)] at this ⊢
   exact hs.kw _ _ _ this
 ·rename_i r off len cap sz
  intro rx hg
  obtain ⟨b,hb,rfl⟩:=rel_arr hx
  cases rx with
  |cells cs t=>
   rintro ⟨hle,hu⟩
   have hh:=hs.holds r _ (hget_mem hg)
   obtain ⟨b',vs,e1,_,hhp,hc,_⟩:=hh
   rw [hb] at e1
   cases e1
   have hlen:((cs.drop off).take len).length=len:=by simp;omega
   have:=relCs_length hc
   have hus:(vs.toList.drop off).take len=((cs.drop off).take len).map valOf:=relCs_u8 (relCs_take len (relCs_drop off hc)) hu
   have run:=run_bytesStr (P:=c.P) (w:=w) (b:=b) (o:=off) (c:=cap) hu fun j hj=>by
    rw [←hus]
    rw [hlen] at hj
    rw [List.getElem?_take,if_pos hj,List.getElem?_drop]
    simp only [World.cell?,hhp,Option.isSome_none,Bool.false_eq_true,if_false]
    simp
   rw [hlen] at run
   exact ⟨_,w,G,.inl (conv _ ⟨_,_,_,rfl⟩ _ run),rel_v G,.refl hs⟩
  |map _=>trivial
  |tok _=>trivial
  |void=>trivial
  |loop L=>trivial
  |row cs' sz' t''=>trivial
 ·trivial
theorem isBytes_und {c:Cx} {t:TypeId} (h:isBytes c t=true):∃ e,c.P.underlying t=some (.slice e)∧c.P.underlying e=some (.int .u8):=by
 unfold isBytes at h
 split at h
 ·cases h
 ·rename_i e he
  unfold sliceElemT at he
  split at he
  ·rename_i h1
   cases he
   split at h
   ·rename_i h2
    obtain ⟨i1,u1,a1,a2,_,_,_,_,a3,_⟩:=c.ty_ok _ _ h1
    obtain ⟨i2,u2,b1,b2,_,_,_,_,b3,_⟩:=c.ty_ok _ _ h2
    cases u1<;>simp [shOK] at a3
    cases u2<;>simp [shOK] at b3
    subst a3 b3
    exact ⟨_,a2,b2⟩
   ·cases h
  ·cases he
/-- A new row that never changes, whatever its room. -/
theorem post_row {G:Ghost} {s:HS} {w w':World} (h:SRel G s w) (vs:Array Value) (h1:∀ b,b < w.heap.size→w'.heap[b]? = w.heap[b]?) (h2:w'.heap.size=w.heap.size+1)
  (h3:∀ o v,vs[o]? = some v→w'.cell? ⟨w.heap.size,o,none⟩=some v) (ho:w'.os=w.os) (ht:w'.tape=w.tape) (hp:w'.output=w.output):Post s G w s (G.commit w.heap.size vs) w':=by
 have le:=Ghost.commit_le h vs
 have hb:∀ b,b < w.heap.size→w'.heap[b]? = w.heap[b]?∧(G.commit w.heap.size vs).role b=G.role b∧∀ o,(G.commit w.heap.size vs).K b o=G.K b o:=fun b hb=>
  ⟨h1 b hb,rfl,fun o=>by simp only [Ghost.commit];rw [if_neg (by omega)]⟩
 refine ⟨⟨fun b off v e=>?_,h.keys,fun r y hy=>(h.holds r y hy).agree h le hb (fun _ _ e=>e) (fun _ a b c d=>⟨a,b,c,d⟩),h.fresh,fun b r e=>?_⟩,⟨le,by omega,fun b hlt _=>hb b hlt,fun r tp e _=>e,Nat.le_refl _,ho,ht,hp,fun _ _ _ b c d=>⟨b,c,d⟩⟩,fun r hr=>.inl hr⟩
 ·simp only [Ghost.commit] at e
  split at e
  ·rename_i hb;subst hb
   exact h3 off v e
  ·have hlt:=h.K_lt e
   have:=h.kw b off v e
   simp only [World.cell?,h1 b hlt] at this ⊢
   exact this
 ·have:=h.role b r e
  exact ⟨by omega,this.2⟩
theorem strBytes_ok (c:Cx) {s:HS} {G:Ghost} {w:World} (hs:SRel G s w) {src dst:TypeId} (b:ByteArray) (hdst:isBytes c dst=true) {u:TypeDesc} (hsrc:c.P.underlying src=some u) :
  Gives s G w ((do pure (Next.value (←convert src dst (.string b))):Sem Next).run c.P w) (.list .no 1 (bytesL b)) s:=by
 obtain ⟨e,h1,h2⟩:=isBytes_und hdst
 have run:=Lib.run_convert_string_bytes (P:=c.P) w src dst e b hsrc h1 h2
 have hl:(bytesL b).length=b.size:=by simp [bytesL]
 refine ⟨_,Lib.bytesWorld w e b,G.commit w.heap.size (b.data.map fun x=>.int .u8 x.toNat),.inl (by rw [Sem.run_bind,run];rfl),rel_leaf ?_ rfl,post_row hs _ (fun j hj=>Lib.bytesWorld_at_old w e b j hj) (Lib.bytesWorld_size w e b) (fun o v ho=>?_) ?_ ?_ ?_⟩
 ·simp only [relC]
  refine .inr (.inl ⟨w.heap.size,0,_,by rw [hl],?_,relAts_bytes _ _ _ _ fun j hj=>?_,trivial⟩)
  ·rw [hl]
   exact capOf_ge w b.size 0 e
  ·simp only [Ghost.commit,if_true,Nat.zero_add]
   simp
 ·have hj:o < b.size:=by
   have:=(Array.getElem?_eq_some_iff.1 ho).1
   simpa using this
  rw [Lib.bytesWorld_cell w e b o hj]
  simp only [Array.getElem?_map] at ho
  rw [Array.getElem?_eq_getElem (by simpa using hj)] at ho
  simp only [Option.map_some,Option.some.injEq] at ho
  rw [←ho]
  simp [List.getD_eq_getElem?_getD]
  rw [Array.getElem?_eq_getElem (by simpa using hj)]
  rfl
 ·rfl
 ·rfl
 ·rfl
end
end Go.Proofs.Hk

namespace Go.Proofs.Hk
noncomputable section
open Go
theorem rel_tup_inv {G:Ghost} {l:List HV} {u:Value} (h:rel G (.tup l) u):∃ us:Array Value,u = .tuple us∧relVs G l us.toList:=by
 obtain ⟨h1,h2⟩:=h
 cases u<;>first|cases h1|skip
 simp only [relC,Value.cells] at h2
 obtain ⟨us,e,h⟩:=h2
 simp only [List.cons.injEq,Value.tuple.injEq,and_true] at e
 subst e
 exact ⟨_,rfl,h⟩
theorem tup_rel {G:Ghost} {l:List HV} {us:List Value} (h:relVs G l us):rel G (.tup l) (.tuple us.toArray):=⟨rfl,by simp only [relC,Value.cells];exact ⟨us.toArray,rfl,by simpa using h⟩⟩
theorem relVs_get {G:Ghost} : ∀ {l:List HV} {us:List Value},relVs G l us→∀ (i:Nat) (x:HV),l[i]? = some x→∃ u,us[i]? = some u∧rel G x u
 |[],us,h,i,x,e=>by simp at e
 |y::ys,us,h,i,x,e=>by
  simp only [relVs_cons] at h
  obtain ⟨u,us',rfl,h1,h2⟩:=h
  cases i with
  |zero=>simp only [List.getElem?_cons_zero,Option.some.injEq] at e;subst e;exact ⟨u,by simp,h1⟩
  |succ i=>simpa using relVs_get h2 i x (by simpa using e)
theorem relVs_append {G:Ghost} : ∀ {l m:List HV} {us vs:List Value},relVs G l us→relVs G m vs→relVs G (l ++ m) (us ++ vs)
 |[],m,us,vs,h,k=>by simp only [relVs] at h;subst h;exact k
 |x::xs,m,us,vs,h,k=>by
  simp only [relVs_cons] at h
  obtain ⟨u,us',rfl,h1,h2⟩:=h
  simp only [List.cons_append,relVs_cons]
  exact ⟨u,us' ++ vs,rfl,h1,relVs_append h2 k⟩
theorem rel_fn {G:Ghost} {f:Fn} {fi ca:List HV} {u:Value} (h:rel G (.fn f fi ca) u):∃ a b:Array Value,u = .func f a b∧relVs G fi a.toList∧relVs G ca b.toList:=by
 obtain ⟨h1,_⟩:=leaf_of h rfl
 simp only [relC] at h1
 obtain ⟨a,b,e,h⟩:=h1
 exact ⟨a,b,by simpa using e,h⟩
theorem fn_rel {G:Ghost} {f:Fn} {fi ca:List HV} {a b:List Value} (h1:relVs G fi a) (h2:relVs G ca b):rel G (.fn f fi ca) (.func f a.toArray b.toArray):=
 rel_leaf (by simp only [relC];exact ⟨_,_,rfl,by simpa using h1,by simpa using h2⟩) rfl
theorem iface_rel {G:Ghost} {t:TypeId} {x:HV} {u:Value} (h:rel G x u):rel G (.iface t x) (.iface t u):=
 rel_leaf (by simp only [relC];exact ⟨u,rfl,h.1,h.2⟩) rfl
theorem rel_iface {G:Ghost} {t:TypeId} {x:HV} {u:Value} (h:rel G (.iface t x) u):∃ v,u = .iface t v∧rel G x v:=by
 obtain ⟨h1,_⟩:=leaf_of h rfl
 simp only [relC] at h1
 obtain ⟨v,e,h⟩:=h1
 exact ⟨v,by simpa using e,h⟩
theorem rel_cptr {G:Ghost} {x:HV} {u:Value} (h:rel G (.cptr x) u):∃ b o,u = .pointer (some ⟨b,o,none⟩):=by
 obtain ⟨h1,_⟩:=leaf_of h rfl
 simp only [relC] at h1
 obtain ⟨b,o,xs,e,_⟩:=h1
 exact ⟨b,o,by simpa using e⟩
theorem convert_ok (c:Cx) {s:HS} {G:Ghost} {w:World} (hs:SRel G s w) (src dst:TypeId) {x:HV} {u:Value} (hx:rel G x u) :
  ResOK c.P s G w ((do pure (Next.value (←convert src dst u)):Sem Next).run c.P w) (hconvert c src dst x):=by
 unfold hconvert
 split
 ·rename_i k k' n hd
  have hu:=(c.ty_ok dst _ hd).int (w:=w) rfl
  split
  ·rename_i k2 hs2
   have hv:=(c.ty_ok src _ hs2).int (w:=w) rfl
   have:=rel_v_eq hx
   subst this
   exact ⟨_,w,G,.inl (by simp [convert,hu,hv,Conv.intToInt]),rel_v G,.refl hs⟩
  ·trivial
 ·rename_i b hd
  have hu:=(c.ty_ok dst _ hd).string (w:=w) rfl
  split
  ·rename_i hs2
   have hv:=(c.ty_ok src _ hs2).string (w:=w) rfl
   have:=rel_v_eq hx
   subst this
   exact ⟨_,w,G,.inl (by simp [convert,hu,hv]),rel_v G,.refl hs⟩
  ·trivial
 ·rename_i b hd
  split
  ·rename_i hb
   split
   ·rename_i hs2
    obtain ⟨i,u,_,a2,_⟩:=c.ty_ok src _ hs2
    have:=rel_v_eq hx
    subst this
    exact strBytes_ok c hs b hb a2
   ·trivial
  ·trivial
 ·rename_i hd _
  have hu:=(c.ty_ok dst _ hd).string (w:=w) rfl
  split
  ·rename_i hb
   exact bytesStr_ok c hs hb hu hx
  ·trivial
 ·trivial
theorem call_ok (c:Cx) {s:HS} {G:Ghost} {w:World} {f:HV} {xs:List HV} {u:Value} {vs:List Value} (hf:rel G f u) (hx:relVs G xs vs) :
  ResOK c.P s G w ((do let d ←Deferred.ofValue u vs.toArray;invoke d.target d.args:Sem Next).run c.P w) (hcall c f xs):=by
 unfold hcall
 split
 ·rename_i k fi ca
  obtain ⟨a,b,rfl,h1,h2⟩:=rel_fn hf
  intro hk
  obtain ⟨d,hd,hb,hn⟩:=c.fn_ok k hk
  refine ⟨a ++ vs.toArray ++ b,?_,by simpa using relVs_append (relVs_append h1 hx) h2⟩
  have hn':¬ d.name = "runtime.NumGoroutine":=by simpa using hn
  have hb':¬ d.body=none:=by intro e;rw [e] at hb;cases hb
  simp [Deferred.ofValue,invoke,callFunc,program,Sem.run,hd,hn',hb']
 ·trivial
theorem zero_ok (c:Cx) {G:Ghost} {t:TypeId} {z:HV} (h:hzero c t=some z):∃ d,c.ty t=some d∧rel G z d.zero:=by
 unfold hzero at h
 split at h
 ·cases h
 ·rename_i d hd
  refine ⟨d,hd,?_⟩
  split at h
  ·rename_i cs hz
   split at h
   ·rename_i hone
    cases h
    rw [hz]
    simpa using rel_agg (relCs_map_v G cs.toList fun u hu=>by
     have:=(List.all_eq_true.1 hone) u hu
     cases u<;>first|rfl|cases this)
   ·cases h
  ·cases h
  ·rename_i v h1 h2
   cases h
   exact rel_v G (h:=by
    cases hv:d.zero<;>first|rfl|exact absurd hv (h1 _)|exact absurd hv (h2 _))
end
end Go.Proofs.Hk

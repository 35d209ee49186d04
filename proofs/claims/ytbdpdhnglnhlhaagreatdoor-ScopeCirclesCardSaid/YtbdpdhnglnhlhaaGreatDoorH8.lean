import Derived.Test.YtbdpdhnglnhlhaaGreatDoorH0
import Derived.Laws.Append
import Derived.IntWalk
import Derived.Lib.ConvBytes
import Derived.MapKept
set_option linter.unusedSimpArgs false
set_option linter.unusedVariables false
namespace Go.Proofs.Hk
noncomputable section
open Go
/-! Rows that never change. -/
def Ghost.commit (G:Ghost) (b:Nat) (vs:Array Value):Ghost:={ G with K:=fun b' o=>if b'=b then vs[o]? else G.K b' o}
theorem Ghost.commit_le {G:Ghost} {s:HS} {w:World} (h:SRel G s w) (vs:Array Value):G.Le (G.commit w.heap.size vs):=
 ⟨fun b o v e=>by
  have:=h.K_lt e
  simp only [Ghost.commit]
  rw [if_neg (by omega)];exact e,fun _ _ e=>e,fun _ t e=>⟨t,e,Nat.le_refl _,fun _=>rfl⟩,rfl⟩
theorem post_commit {G:Ghost} {s:HS} {w:World} (h:SRel G s w) (vs:Array Value) (t:TypeId) :
  Post s G w s (G.commit w.heap.size vs) (World.pushed w (.cells vs t)):=by
 have le:=Ghost.commit_le h vs
 have hb:∀ b,b < w.heap.size→(World.pushed w (.cells vs t)).heap[b]? = w.heap[b]?∧(G.commit w.heap.size vs).role b=G.role b∧∀ o,(G.commit w.heap.size vs).K b o=G.K b o:=fun b hb=>
  ⟨pushed_lt w _ hb,rfl,fun o=>by simp only [Ghost.commit];rw [if_neg (by omega)]⟩
 refine ⟨⟨fun b off v e=>?_,h.keys,fun r y hy=>(h.holds r y hy).agree h le hb (fun _ _ e=>e) (fun _ a b c d=>⟨a,b,c,d⟩),h.fresh,fun b r e=>?_⟩,⟨le,by simp [World.pushed],fun b hlt _=>hb b hlt,fun r tp e _=>e,Nat.le_refl _,rfl,rfl,rfl,fun _ _ _ b c d=>⟨b,c,d⟩⟩,fun r hr=>.inl hr⟩
 ·simp only [Ghost.commit] at e
  split at e
  ·rename_i hb;subst hb
   simp only [World.cell?,pushed_new,Option.isSome_none,Bool.false_eq_true,if_false];exact e
  ·exact pushed_cell w _ (h.kw b off v e)
 ·have:=h.role b r e
  simp only [World.pushed,Array.size_push]
  exact ⟨by omega,this.2⟩
/-- The cells of values, one behind the other. -/
def flat (us:List Value):List Value:=us.flatMap fun u=>u.cells.toList
theorem relVs_length {G:Ghost} : ∀ {l:List HV} {us:List Value},relVs G l us→us.length=l.length
 |[],us,h=>by simp only [relVs] at h;simp [h]
 |x::xs,us,h=>by
  simp only [relVs_cons] at h
  obtain ⟨u,us',rfl,_,h⟩:=h
  simp [relVs_length h]
theorem flat_length {G:Ghost} {sz:Nat} : ∀ {l:List HV} {us:List Value},relVs G l us→allCells sz l=true→(flat us).length=l.length * sz
 |[],us,h,_=>by simp only [relVs] at h;subst h;simp [flat]
 |x::xs,us,h,ha=>by
  simp only [relVs_cons] at h
  obtain ⟨u,us',rfl,hx,h⟩:=h
  simp only [allCells,Bool.and_eq_true,Nat.beq_eq] at ha
  have:=relCs_length (rel_cells hx (kd_ok ha.1.2))
  have ih:=flat_length h ha.2
  simp only [flat,List.flatMap_cons,List.length_append] at ih ⊢
  rw [ih,this,ha.1.1,List.length_cons,Nat.add_mul,Nat.one_mul,Nat.add_comm]
theorem relAts_flat {G G':Ghost} (le:G.Le G') {sz:Nat} {rd:Nat→Option Value} : ∀ {l:List HV} {us:List Value} {o:Nat},relVs G l us→allCells sz l=true→(∀ j,j < l.length * sz→rd (o+j)=(flat us)[j]?)→relAts G' l rd o sz
 |[],us,o,h,_,_=>by simp only [relAts]
 |x::xs,us,o,h,ha,hr=>by
  simp only [relVs_cons] at h
  obtain ⟨u,us',rfl,hx,h⟩:=h
  simp only [allCells,Bool.and_eq_true,Nat.beq_eq] at ha
  have hl:u.cells.toList.length=sz:=by rw [relCs_length (rel_cells hx (kd_ok ha.1.2)),ha.1.1]
  simp only [relAts]
  have hlen:(x::xs).length * sz=xs.length * sz+sz:=by simp [Nat.add_mul]
  refine ⟨⟨u.cells.toList,hl,kd_ok ha.1.2,fun j hj=>?_,relC.mono le _ _ hx.2⟩,relAts_flat le h ha.2 fun j hj=>?_⟩
  ·rw [hr j (by omega)]
   simp only [flat,List.flatMap_cons]
   rw [List.getElem?_append_left (by omega)]
  ·rw [Nat.add_assoc,hr (sz+j) (by omega)]
   simp only [flat,List.flatMap_cons]
   rw [List.getElem?_append_right (by omega),hl]
   congr 1;omega
theorem inOrder_eq:∀ {parts:List (Nat × HV)} {k:Nat} {l:List HV},inOrder parts k=some l→parts.map (·.2)=l∧parts.map (·.1)=List.range' k l.length
 |[],k,l,h=>by simp only [inOrder,Option.some.injEq] at h;subst h;simp
 |(i,x)::rest,k,l,h=>by
  simp only [inOrder] at h
  split at h
  ·rename_i hi
   split at h
   ·rename_i l' hl
    simp only [Option.some.injEq] at h
    subst h
    obtain ⟨h1,h2⟩:=inOrder_eq hl
    have:i=k:=Nat.eq_of_beq_eq_true hi
    subst this
    simp only [List.map_cons,h1,h2,List.length_cons,List.range'_succ]
    exact ⟨trivial,trivial⟩
   ·cases h
  ·cases h
theorem fill_row {G:Ghost} {sz:Nat} : ∀ {l:List HV} {us:List Value} {k:Nat} {cells:Array Value},relVs G l us→allCells sz l=true→(k+l.length) * sz≤cells.size→
  Instr.fill (fun i=>some (i * sz,sz)) cells ((List.range' k l.length).zip us)=some (cells.toList.take (k * sz) ++ flat us ++ cells.toList.drop ((k+l.length) * sz)).toArray
 |[],us,k,cells,h,_,hs=>by
  simp only [relVs] at h
  subst h
  simp [Instr.fill,flat]
 |x::xs,us,k,cells,h,ha,hs=>by
  simp only [relVs_cons] at h
  obtain ⟨u,us',rfl,hx,h⟩:=h
  simp only [allCells,Bool.and_eq_true,Nat.beq_eq] at ha
  have hl:u.cells.size=sz:=by have:=relCs_length (rel_cells hx (kd_ok ha.1.2));rw [ha.1.1] at this;simpa using this
  have e1:(k+(x::xs).length) * sz=k * sz+sz+xs.length * sz:=by simp only [List.length_cons,Nat.add_mul,Nat.one_mul];omega
  have e2:(k+1+xs.length) * sz=k * sz+sz+xs.length * sz:=by simp only [Nat.add_mul,Nat.one_mul]
  have e3:(k+1) * sz=k * sz+sz:=by simp only [Nat.add_mul,Nat.one_mul]
  rw [e1] at hs
  have hfl:=flat_length h ha.2
  simp only [List.length_cons,List.range'_succ,List.zip_cons_cons,Instr.fill]
  rw [if_neg (by simp;omega),foldl_set' (k * sz) u.cells cells (by omega)]
  rw [fill_row h ha.2 (by rw [e2];simp;omega)]
  congr 2
  simp only [flat,List.flatMap_cons]
  have e1':(k+(xs.length+1)) * sz=k * sz+sz+xs.length * sz:=by simp only [Nat.add_mul,Nat.one_mul];omega
  rw [e1',e2,e3]
  have h1:(cells.toList.take (k * sz)).length=k * sz:=by simp;omega
  have h2:(cells.toList.take (k * sz) ++ u.cells.toList).length=k * sz+sz:=by simp only [List.length_append,h1,Array.length_toList,hl]
  rw [List.take_append_of_le_length (by omega),List.take_of_length_le (by omega)]
  rw [List.drop_append,List.drop_of_length_le (by omega),List.nil_append,List.drop_drop,h2,hl]
  simp only [List.append_assoc]
  congr 4
  omega
theorem buildSlice_ok (c:Cx) {s:HS} {G:Ghost} {w:World} (hs:SRel G s w) (t:TypeId) (n:Nat) {ns:List Nat} {vs:List HV} {us:List Value} (hn:ns.length=vs.length) (hx:relVs G vs us) :
  ResOK c.P s G w ((do pure (Next.value (←Instr.buildSlice t n (ns.zip us).toArray)):Sem Next).run c.P w) (hbuildSlice c t n (ns.zip vs)):=by
 unfold hbuildSlice
 split
 ·rename_i size bytes ag z e hd
  have ht:=c.ty_ok t _ hd
  split
  ·trivial
  ·rename_i d he
   have hte:=c.ty_ok e d he
   split
   ·trivial
   ·rename_i l hl
    split
    ·rename_i hb
     simp only [Bool.and_eq_true,Nat.beq_eq] at hb
     obtain ⟨⟨h1,h2⟩,h3⟩:=hb
     have h3:n * d.size≤16777216:=Nat.le_of_ble_eq_true h3
     obtain ⟨q1,q2⟩:=inOrder_eq hl
     have e1:(ns.zip vs).map (·.2)=vs:=by simp [List.map_snd_zip,hn]
     have e2:(ns.zip vs).map (·.1)=ns:=by simp [List.map_fst_zip,hn]
     rw [e1] at q1
     rw [e2] at q2
     subst q1
     subst h1
     have hfl:=flat_length hx h2
     have hz:∀ z:Array Value,((Array.range (vs.length * d.size)).map (fun x=>z[x % z.size]!)).size=vs.length * d.size:=fun z=>by simp
     have hfill:∀ z:Array Value,Instr.fill (fun i=>some (i * d.size,d.size)) ((Array.range (vs.length * d.size)).map (fun x=>z[x % z.size]!)) (ns.zip us)=some (flat us).toArray:=fun z=>by
      rw [q2,fill_row hx h2 (by simp)]
      simp
     refine ⟨.slice (some ⟨w.heap.size,0,none⟩) vs.length vs.length,World.pushed w (.cells (flat us).toArray e),G.commit w.heap.size (flat us).toArray,.inl ?_,rel_leaf ?_ rfl,post_commit hs _ _⟩
     ·have hu:=ht.slice (w:=w) rfl
      simp only [Instr.buildSlice,Sem.run_bind,hu,Result.andThen_ok,hte.sizeOf]
      rw [if_neg (by omega)]
      by_cases h0:vs.length * d.size=0
      ·rw [if_pos h0]
       simp only [Sem.run_bind,Sem.run_pure,Result.andThen_ok,hfill]
       simp [newRow,Go.newObj,Sem.run,World.pushed]
      ·rw [if_neg h0]
       simp only [Sem.run_bind,hte.zero,Sem.run_pure,Result.andThen_ok,hfill]
       simp [newRow,Go.newObj,Sem.run,World.pushed]
     ·simp only [relC]
      refine .inr (.inl ⟨w.heap.size,0,vs.length,rfl,Nat.le_refl _,?_,rfl⟩)
      refine relAts_flat (Ghost.commit_le hs _) hx h2 fun j hj=>?_
      simp [Ghost.commit]
    ·trivial
 ·trivial
end
end Go.Proofs.Hk

namespace Go.Proofs.Hk
noncomputable section
open Go
theorem relAts_get {G:Ghost} {sz:Nat} {rd:Nat→Option Value} : ∀ {l:List HV} {o:Nat},relAts G l rd o sz→∀ (i:Nat) (x:HV),l[i]? = some x→
  ∃ cs,cs.length=sz∧x.kd≠.tup∧(∀ j,j < sz→rd (o+i * sz+j)=cs[j]?)∧relC G x cs
 |[],o,_,i,x,e=>by simp at e
 |y::ys,o,h,0,x,e=>by
  simp only [relAts] at h
  simp only [List.getElem?_cons_zero,Option.some.injEq] at e
  subst e
  simpa using h.1
 |y::ys,o,h,i+1,x,e=>by
  simp only [relAts] at h
  obtain ⟨cs,h1,h2,h3,h4⟩:=relAts_get h.2 i x (by simpa using e)
  refine ⟨cs,h1,h2,fun j hj=>?_,h4⟩
  rw [←h3 j hj]
  congr 1
  simp only [Nat.add_mul,Nat.one_mul];omega
theorem relAts_drop {G:Ghost} {sz:Nat} {rd:Nat→Option Value} : ∀ {l:List HV} {o:Nat} (k:Nat),relAts G l rd o sz→relAts G (l.drop k) rd (o+k * sz) sz
 |[],o,k,_=>by simp [relAts]
 |x::xs,o,0,h=>by simpa using h
 |x::xs,o,k+1,h=>by
  simp only [relAts] at h
  have:=relAts_drop k h.2
  simp only [List.drop_succ_cons]
  rw [show o+(k+1) * sz=o+sz+k * sz from by simp only [Nat.add_mul,Nat.one_mul];omega]
  exact this
theorem relAts_take {G:Ghost} {sz:Nat} {rd:Nat→Option Value} : ∀ {l:List HV} {o:Nat} (k:Nat),relAts G l rd o sz→relAts G (l.take k) rd o sz
 |[],o,k,_=>by simp [relAts]
 |x::xs,o,0,h=>by simp [relAts]
 |x::xs,o,k+1,h=>by
  simp only [relAts] at h
  simp only [List.take_succ_cons,relAts]
  exact ⟨h.1,relAts_take k h.2⟩
theorem relAts_append {G:Ghost} {sz:Nat} {rd:Nat→Option Value} : ∀ {l m:List HV} {o:Nat},relAts G l rd o sz→relAts G m rd (o+l.length * sz) sz→relAts G (l ++ m) rd o sz
 |[],m,o,_,k=>by simpa using k
 |x::xs,m,o,h,k=>by
  simp only [relAts,List.cons_append] at h ⊢
  refine ⟨h.1,relAts_append h.2 ?_⟩
  rw [show o+sz+xs.length * sz=o+(x::xs).length * sz from by simp only [List.length_cons,Nat.add_mul,Nat.one_mul];omega]
  exact k
/-- A row's value: nil, or a block's. -/
theorem rel_list {G:Ghost} {t:Tok} {sz:Nat} {l:List HV} {u:Value} (h:rel G (.list t sz l) u) :
  (l=[]∧u = .slice none 0 0∧tokNil G t)∨(∃ b o c,u = .slice (some ⟨b,o,none⟩) l.length c∧l.length≤c∧relAts G l (G.K b) o sz∧tokRel G t sz l.length b o c)∨(l=[]∧(∀ i st,t≠.own i st)∧∃ a,u = .slice (some a) 0 0):=by
 obtain ⟨h1,_⟩:=leaf_of h rfl
 simp only [relC] at h1
 rcases h1 with ⟨e,h1,h2⟩|⟨b,o,c,h1,h2⟩|⟨e,et,a,h1⟩
 ·exact .inl ⟨e,by simpa using h1,h2⟩
 ·exact .inr (.inl ⟨b,o,c,by simpa using h1,h2⟩)
 ·exact .inr (.inr ⟨e,et,a,by simpa using h1⟩)
theorem list_rel_odd {G:Ghost} {t:Tok} {sz:Nat} (a:Addr) (h:∀ i st,t≠.own i st):rel G (.list t sz []) (.slice (some a) 0 0):=
 rel_leaf (by simp only [relC];exact .inr (.inr ⟨trivial,h,a,rfl⟩)) rfl
theorem list_rel {G:Ghost} {t:Tok} {sz:Nat} {l:List HV} {b o c:Nat} (h1:l.length≤c) (h2:relAts G l (G.K b) o sz) (h3:tokRel G t sz l.length b o c):rel G (.list t sz l) (.slice (some ⟨b,o,none⟩) l.length c):=
 rel_leaf (by simp only [relC];exact .inr (.inl ⟨b,o,c,rfl,h1,h2,h3⟩)) rfl
theorem list_rel_nil {G:Ghost} {t:Tok} {sz:Nat} (h:tokNil G t):rel G (.list t sz []) (.slice none 0 0):=
 rel_leaf (by simp only [relC];exact .inl ⟨trivial,trivial,h⟩) rfl
theorem rel_arr {G:Ghost} {r off len cap sz:Nat} {u:Value} (h:rel G (.arr r off len cap sz) u):∃ b,G.om r=some b∧u = .slice (some ⟨b,off,none⟩) len cap:=by
 obtain ⟨h1,_⟩:=leaf_of h rfl
 simp only [relC] at h1
 obtain ⟨b,e,hb⟩:=h1
 exact ⟨b,e,by simpa using hb⟩
theorem arr_rel {G:Ghost} {r off len cap sz b:Nat} (h:G.om r=some b):rel G (.arr r off len cap sz) (.slice (some ⟨b,off,none⟩) len cap):=
 rel_leaf (by simp only [relC];exact ⟨b,h,rfl⟩) rfl
theorem cptr_rel {G:Ghost} {x:HV} {b o:Nat} {xs:List Value} (hk:x.kd≠.tup) (h:∀ j,j < xs.length→G.K b (o+j)=xs[j]?) (hx:relC G x xs):rel G (.cptr x) (.pointer (some ⟨b,o,none⟩)):=
 rel_leaf (by simp only [relC];exact ⟨b,o,xs,rfl,hk,h,hx⟩) rfl
theorem len_ok (c:Cx) {s:HS} {G:Ghost} {w:World} (hs:SRel G s w) (t:TypeId) {x:HV} {u:Value} (hx:rel G x u) (ty:TypeId) :
  ResOK c.P s G w ((do pure (Next.value (←Builtin.len_ #[t] ty #[u])):Sem Next).run c.P w) (hlen c t x):=by
 have fin:∀ n:Nat,(Builtin.len_ #[t] ty #[u]).run c.P w = .ok (goInt n) w→ResOK c.P s G w ((do pure (Next.value (←Builtin.len_ #[t] ty #[u])):Sem Next).run c.P w) (.pure (.v (.int .i64 n))):=fun n h=>
  ⟨_,w,G,.inl (by rw [Sem.run_bind,h];rfl),rel_v G,.refl hs⟩
 unfold hlen
 split
 ·rename_i size bytes ag z e hd
  have hu:=(c.ty_ok t _ hd).slice (w:=w) rfl
  split
  ·refine fin _ ?_
   rcases rel_list hx with ⟨rfl,rfl,_⟩|⟨b,o,c',rfl,_⟩|⟨rfl,_,a,rfl⟩<;>simp [Builtin.len_,hu,goInt]
  ·obtain ⟨b,_,rfl⟩:=rel_arr hx
   exact fin _ (by simp [Builtin.len_,hu,goInt])
  ·have:=rel_v_eq hx
   subst this
   exact fin _ (by simp [Builtin.len_,hu,goInt])
  ·trivial
 ·rename_i size bytes ag z hd
  have hu:=(c.ty_ok t _ hd).string (w:=w) rfl
  split
  ·have:=rel_v_eq hx
   subst this
   exact fin _ (by simp [Builtin.len_,hu,goInt])
  ·trivial
 ·trivial
theorem indexAddr_ok (c:Cx) {s:HS} {G:Ghost} {w:World} (hs:SRel G s w) (t:TypeId) {x i:HV} {u v:Value} (hx:rel G x u) (hi:rel G i v) :
  ResOK c.P s G w ((do pure (Next.value (←Instr.indexAt t u v)):Sem Next).run c.P w) (hindexAddr c t x i):=by
 unfold hindexAddr
 split
 ·rename_i size bytes ag z e hd
  have ht:=c.ty_ok t _ hd
  have hu:=ht.slice (w:=w) rfl
  split
  ·trivial
  ·rename_i d he
   have hte:=c.ty_ok e d he
   split
   ·rename_i k n
    have:=rel_v_eq hi
    subst this
    split
    ·rename_i tk sz l
     rintro ⟨h0,h1,rfl⟩
     rcases (rel_list hx).imp id or_comm.1 with ⟨rfl,rfl,_⟩|⟨rfl,_,a,rfl⟩|⟨b,o,cp,rfl,_,ha,_⟩
     ·simp at h1;omega
     ·simp at h1;omega
     ·have hlt:n.toNat < l.length:=by omega
      obtain ⟨cs,c1,c2,c3,c4⟩:=relAts_get ha n.toNat l[n.toNat] (List.getElem?_eq_getElem hlt)
      refine ⟨.pointer (some ⟨b,o+n.toNat * d.size,none⟩),w,G,.inl ?_,?_,.refl hs⟩
      ·simp only [Instr.indexAt,asIntOf,Sem.run_bind,pure_bind,hu,Result.andThen_ok]
       rw [if_pos ⟨h0,by omega⟩]
       simp only [Sem.run_bind,hte.sizeOf,Result.andThen_ok,Sem.run_pure,add_plain]
      ·rw [List.getD_eq_getElem?_getD,List.getElem?_eq_getElem hlt]
       exact cptr_rel c2 (fun j hj=>c3 j (by omega)) c4
    ·rename_i r off len cap sz
     rintro ⟨h0,h1,rfl⟩
     obtain ⟨b,ho,rfl⟩:=rel_arr hx
     refine ⟨.pointer (some ⟨b,off+n.toNat * d.size,none⟩),w,G,.inl ?_,ptr_rel ho,.refl hs⟩
     simp only [Instr.indexAt,asIntOf,Sem.run_bind,pure_bind,hu,Result.andThen_ok]
     rw [if_pos ⟨h0,by omega⟩]
     simp only [Sem.run_bind,hte.sizeOf,Result.andThen_ok,Sem.run_pure,add_plain]
    ·trivial
   ·trivial
 ·trivial
theorem index_ok (c:Cx) {s:HS} {G:Ghost} {w:World} (hs:SRel G s w) (t:TypeId) {x i:HV} {u v:Value} (hx:rel G x u) (hi:rel G i v) :
  ResOK c.P s G w ((do pure (Next.value (←Instr.index t u v)):Sem Next).run c.P w) (hindex c t x i):=by
 unfold hindex
 split
 ·rename_i size bytes ag z hd
  have hu:=(c.ty_ok t _ hd).string (w:=w) rfl
  split
  ·rename_i b k n
   have e1:=rel_v_eq hi
   have e2:=rel_v_eq hx
   subst e1 e2
   rintro ⟨h0,h1⟩
   have hlt:n.toNat < b.size:=by omega
   have hg:b[n.toNat]? = some (b.data.toList.getD n.toNat 0):=by
    have:n.toNat < b.data.toList.length:=by simpa using hlt
    rw [List.getD_eq_getElem?_getD,List.getElem?_eq_getElem this]
    simp only [Option.getD_some]
    rw [getElem?_pos b n.toNat hlt]
    rfl
   refine ⟨_,w,G,.inl ?_,rel_v G,.refl hs⟩
   simp only [Instr.index,asIntOf,Sem.run_bind,pure_bind,hu,Result.andThen_ok,h0,if_true,hg,Sem.run_pure,byteAt]
  ·trivial
 ·trivial
theorem fieldAddr_ok (c:Cx) {s:HS} {G:Ghost} {w:World} (hs:SRel G s w) (t:TypeId) (f:Nat) {x:HV} {u:Value} (hx:rel G x u) :
  ResOK c.P s G w ((do pure (Next.value (←Instr.fieldAt t u f)):Sem Next).run c.P w) (hfieldAddr c t x f):=by
 unfold hfieldAddr
 split
 ·rename_i size bytes ag z fs eq hd
  obtain ⟨F,hu,hF,_⟩:=(c.ty_ok t _ hd).struct (w:=w) rfl
  split
  ·trivial
  ·rename_i o s' agg hf
   obtain ⟨fl,e1,e2,e3⟩:=fieldsOK_get hF f o s' agg hf
   have e1':F[f]? = some fl:=by simpa using e1
   split
   ·trivial
   ·rename_i hne
    have hne:s'≠0:=fun e=>by subst e;cases hne
    have run:∀ b off,u = .pointer (some ⟨b,off,none⟩)→(do pure (Next.value (←Instr.fieldAt t u f)):Sem Next).run c.P w = .ok (.value (.pointer (some ⟨b,off+o,none⟩))) w:=by
     intro b off e
     subst e
     simp only [Instr.fieldAt,Sem.run_bind,hu,Result.andThen_ok,e1',Instr.sureAddr,pure_bind,fieldPlace,(e3 w).1]
     rw [if_neg hne]
     simp only [Sem.run_pure,Result.andThen_ok,add_plain,e2]
    split
    ·rename_i r off
     obtain ⟨b,ho,e⟩:=rel_ptr hx
     exact ⟨_,w,G,.inl (run b off e),ptr_rel ho,.refl hs⟩
    ·rename_i y
     obtain ⟨h1,_⟩:=leaf_of hx rfl
     simp only [relC] at h1
     obtain ⟨b,oo,xs,e,hk,hK,hr⟩:=h1
     have e:u = .pointer (some ⟨b,oo,none⟩):=by simpa using e
     split
     ·intro hb
      simp only [Bool.and_eq_true] at hb
      obtain ⟨hkd,hl⟩:=hb
      have hkd:=kdAgg_eq hkd
      have hl:=Nat.le_of_ble_eq_true hl
      cases y<;>first|cases hkd|skip
      rename_i l
      simp only [relC] at hr
      simp only [HV.cells] at hl ⊢
      have hlen:=relCs_length hr
      refine ⟨_,w,G,.inl (run b oo e),cptr_rel (xs:=(xs.drop o).take s') (by simp [HV.kd]) (fun j hj=>?_) (by simp only [relC];exact relCs_take _ (relCs_drop _ hr)),.refl hs⟩
      have hj':j < s':=by simp only [List.length_take] at hj;omega
      rw [List.getElem?_take_of_lt hj',List.getElem?_drop,Nat.add_assoc]
      exact hK (o+j) (by omega)
     ·split
      ·rename_i y' hy'
       intro hb
       simp only [Bool.and_eq_true,Nat.beq_eq] at hb
       obtain ⟨⟨hkd,hkd'⟩,hs1⟩:=hb
       have hkd:=kdAgg_eq hkd
       have hkd':=kdOne_eq hkd'
       cases y<;>first|cases hkd|skip
       rename_i l
       simp only [relC] at hr
       simp only [HV.cells] at hy'
       obtain ⟨v,hv,_,hr'⟩:=relCs_get hr o y' hy'
       refine ⟨_,w,G,.inl (run b oo e),cptr_rel (xs:=[v]) (by rw [hkd'];simp) (fun j hj=>?_) hr',.refl hs⟩
       have:j=0:=by simpa using hj
       subst this
       have:=hK o (List.getElem?_eq_some_iff.1 hv).1
       simpa [hv] using this
      ·trivial
    ·trivial
 ·trivial
theorem field_ok (c:Cx) {s:HS} {G:Ghost} {w:World} (hs:SRel G s w) (t:TypeId) (f:Nat) {x:HV} {u:Value} (hx:rel G x u) :
  ResOK c.P s G w ((do pure (Next.value (←Instr.field t u f)):Sem Next).run c.P w) (hfield c t x f):=by
 unfold hfield
 split
 ·rename_i size bytes ag z fs eq hd
  obtain ⟨F,hu,hF,_⟩:=(c.ty_ok t _ hd).struct (w:=w) rfl
  split
  ·trivial
  ·rename_i o s' agg hf
   obtain ⟨fl,e1,e2,e3⟩:=fieldsOK_get hF f o s' agg hf
   have e1':F[f]? = some fl:=by simpa using e1
   split
   ·rename_i l
    obtain ⟨us,rfl,hus⟩:=rel_agg_inv hx
    unfold hpart
    split
    ·split
     case h_2=>trivial
     rename_i hl
     have hl:=Nat.le_of_ble_eq_true hl
     rw [forceL_eq]
     refine ⟨_,w,G,.inl ?_,rel_agg (relCs_take s' (relCs_drop o hus)),.refl hs⟩
     simp only [Instr.field,Sem.run_bind,hu,Result.andThen_ok,e1',asAgg,pure_bind,part,(e3 w).2,(e3 w).1,if_true,Sem.run_pure,e2]
     congr 3
     apply Array.toList_inj.1
     simp only [Array.toList_extract,List.extract_eq_take_drop]
     congr 1
     omega
    ·split
     ·rename_i y hy
      obtain ⟨v,hv,hk,hr⟩:=relCs_get hus o y hy
      have hv':us[o]? = some v:=by simpa using hv
      refine ⟨v,w,G,.inl ?_,rel_leaf hr hk,.refl hs⟩
      simp only [Instr.field,Sem.run_bind,hu,Result.andThen_ok,e1',asAgg,pure_bind,part,(e3 w).2,Bool.false_eq_true,if_false,e2,hv',Sem.run_pure]
     ·trivial
   ·trivial
 ·trivial
end
end Go.Proofs.Hk

namespace Go.Proofs.Hk
noncomputable section
open Go
theorem relC_cells_one {G:Ghost} {x:HV} {cs:List Value} (h:relC G x cs) (hx:x.kd≠.tup):∀ u∈cs,vkd u = .one:=by
 by_cases ho:x.kd = .one
 ·obtain ⟨u,rfl,hu⟩:=relC_one h ho
  intro v hv
  rw [List.mem_singleton.1 hv];exact hu
 ·cases x<;>first|exact absurd rfl ho|exact absurd rfl hx|skip
  simp only [relC] at h
  exact relCs_one h
/-- The cells of a row's elements. -/
theorem relAts_cells {G:Ghost} {sz:Nat} {rd:Nat→Option Value} : ∀ {l:List HV} {o:Nat},relAts G l rd o sz→
  ∃ news:List Value,news.length=l.length * sz∧(∀ j,j < news.length→rd (o+j)=news[j]?)∧(∀ u∈news,vkd u = .one)∧
   ∀ (G':Ghost) (rd':Nat→Option Value) (o':Nat),G.Le G'→(∀ j,j < news.length→rd' (o'+j)=news[j]?)→relAts G' l rd' o' sz
 |[],o,_=>⟨[],by simp,by simp,by simp,fun _ _ _ _ _=>by simp only [relAts]⟩
 |x::xs,o,h=>by
  simp only [relAts] at h
  obtain ⟨⟨cs,h1,h2,h3,h4⟩,h5⟩:=h
  obtain ⟨news,n1,n2,n3,n4⟩:=relAts_cells h5
  refine ⟨cs ++ news,?_,fun j hj=>?_,fun u hu=>?_,fun G' rd' o' le hr=>?_⟩
  ·simp only [List.length_append,h1,n1,List.length_cons,Nat.add_mul,Nat.one_mul];omega
  ·rcases Nat.lt_or_ge j sz with hlt|hge
   ·rw [List.getElem?_append_left (by omega)];exact h3 j hlt
   ·rw [List.getElem?_append_right (by omega),h1,←n2 (j - sz) (by simp only [List.length_append] at hj;omega)]
    congr 1;omega
  ·rcases List.mem_append.1 hu with hu|hu
   ·exact relC_cells_one h4 h2 u hu
   ·exact n3 u hu
  ·simp only [relAts]
   refine ⟨⟨cs,h1,h2,fun j hj=>?_,relC.mono le _ _ h4⟩,n4 G' rd' (o'+sz) le fun j hj=>?_⟩
   ·rw [hr j (by simp only [List.length_append];omega),List.getElem?_append_left (by omega)]
   ·rw [Nat.add_assoc,hr (sz+j) (by simp only [List.length_append];omega),List.getElem?_append_right (by omega),h1]
    congr 1;omega
structure Src (P:Program) (G:Ghost) (w:World) (sz:Nat) (v:Value) (ys:List HV) (news:List Value):Prop where
 len:∀ w',(Builtin.lenOf v).run P w' = .ok ys.length w'
 first:∀ w',w'.heap=w.heap→(Builtin.firstCells sz ys.length v).run P w' = .ok news.toArray w'
 length:news.length=ys.length * sz
 one:∀ u∈news,vkd u = .one
 rel:∀ (G':Ghost) (rd:Nat→Option Value) (o:Nat),G.Le G'→(∀ j,j < news.length→rd (o+j)=news[j]?)→relAts G' ys rd o sz
theorem cell_of_heap {w w':World} (h:w'.heap=w.heap) (a:Addr):w'.cell? a=w.cell? a:=by simp only [World.cell?,h]
theorem src_list (P:Program) {G:Ghost} {w:World} {s:HS} (hs:SRel G s w) {t:Tok} {sz:Nat} {l:List HV} {v:Value} (h:rel G (.list t sz l) v):∃ news,Src P G w sz v l news:=by
 rcases (rel_list h).imp id or_comm.1 with ⟨rfl,rfl,_⟩|⟨rfl,_,a,rfl⟩|⟨b,o,c,rfl,_,ha,_⟩
 ·exact ⟨[],fun w'=>by simp [Builtin.lenOf],fun w' _=>by simp [Builtin.firstCells],by simp,by simp,fun _ _ _ _ _=>by simp only [relAts]⟩
 ·exact ⟨[],fun w'=>by simp [Builtin.lenOf],fun w' _=>run_firstCells_some w' sz 0 a 0 0 [] (by simp) (fun j u e=>by simp at e),by simp,by simp,fun _ _ _ _ _=>by simp only [relAts]⟩
 ·obtain ⟨news,n1,n2,n3,n4⟩:=relAts_cells ha
  refine ⟨news,fun w'=>by simp [Builtin.lenOf],fun w' hw=>?_,n1,n3,n4⟩
  refine run_firstCells_some w' sz l.length ⟨b,o,none⟩ l.length c news n1 fun j u e=>?_
  rw [add_plain,cell_of_heap hw]
  have hj:=(List.getElem?_eq_some_iff.1 e).1
  have:=n2 j hj
  rw [e] at this
  exact hs.kw _ _ _ this
theorem src_nil (P:Program) (G:Ghost) (w:World) (sz:Nat):Src P G w sz (.slice none 0 0) [] []:=
 ⟨fun w'=>by simp [Builtin.lenOf],fun w' _=>by simp [Builtin.firstCells],by simp,by simp,fun _ _ _ _ _=>by simp only [relAts]⟩
theorem relAts_bytes (G:Ghost) (rd:Nat→Option Value):∀ (l:List UInt8) (o:Nat),(∀ j,j < l.length→rd (o+j)=(l.map fun b=>Value.int .u8 (b.toNat:Int))[j]?)→relAts G (l.map fun b=>HV.v (.int .u8 (b.toNat:Int))) rd o 1
 |[],o,_=>by simp [relAts]
 |b::l,o,h=>by
  simp only [List.map_cons,relAts]
  refine ⟨⟨[.int .u8 b.toNat],rfl,by simp [HV.kd],fun j hj=>?_,by simp [relC,vkd]⟩,relAts_bytes G rd l (o+1) fun j hj=>?_⟩
  ·have:j=0:=by omega
   subst this
   simpa using h 0 (by simp)
  ·have:=h (j+1) (by simpa using hj)
   rw [show o+1+j=o+(j+1) from by omega,this]
   simp
theorem src_string (P:Program) (G:Ghost) (w:World) (b:ByteArray):Src P G w 1 (.string b) (b.data.toList.map fun x=>.v (.int .u8 x.toNat)) (b.data.toList.map fun x=>.int .u8 x.toNat):=by
 have hl:(b.data.toList.map fun x=>HV.v (.int .u8 (x.toNat:Int))).length=b.size:=by simp
 refine ⟨fun w'=>by simp [Builtin.lenOf],fun w' _=>?_,by simp,fun u hu=>?_,fun G' rd o _ h=>relAts_bytes G' rd _ o fun j hj=>by simpa using h j (by simpa using hj)⟩
 ·rw [hl]
  simp only [Builtin.firstCells,Sem.run_pure,Result.ok.injEq,and_true]
  have:b.extract 0 b.size=b:=ByteArray.extract_zero_size
  rw [this]
  apply Array.toList_inj.1
  simp
 ·obtain ⟨x,_,rfl⟩:=List.mem_map.1 hu
  rfl
def capOf (w:World) (need old:Nat) (e:TypeId):Nat:=(Question.appendCap need old e).cut (w.tape w.drawn (.appendCap need old e))
theorem capOf_ge (w:World) (need old:Nat) (e:TypeId):need≤capOf w need old e:=by simp [capOf,Question.cut]
theorem run_append_new {P:Program} {w:World} {t u ty e:TypeId} {d:TyD} {du:TypeDesc} (ht:∀ w:World,(underlying t).run P w = .ok (.slice e) w) (hu:∀ w:World,(underlying u).run P w = .ok du w) (hdu:du = .string∨∃ e',du = .slice e') (hd:TyOK P e d)
  {base:Option Addr} {n c:Nat} {v:Value} {olds news:List Value} {ys:List HV} {G:Ghost}
  (hold:∀ w',w'.heap=w.heap→(Builtin.firstCells d.size n (.slice base n c)).run P w' = .ok olds.toArray w') (hsrc:Src P G w d.size v ys news)
  (hc:c < n+ys.length) (hb:0 < d.bytes) (hfit:(n+ys.length) * d.bytes≤140737488355328) :
  (Builtin.append_ #[t,u] ty #[.slice base n c,v]).run P w =
   .ok (.slice (some ⟨w.heap.size,0,none⟩) (n+ys.length) (capOf w (n+ys.length) c e))
    (World.pushed (w.drew) (.cells (olds.toArray ++ news.toArray ++ Builtin.zeroCells d.zero.cells (capOf w (n+ys.length) c e - (n+ys.length))) e)):=by
 have hsz:n+ys.length≤140737488355328:=by
  have:(n+ys.length) * 1≤(n+ys.length) * d.bytes:=Nat.mul_le_mul_left _ hb
  omega
 have hcap:=growslice_fits (need:=n+ys.length) (old:=c) (bytes:=d.bytes) hc (by omega)
 obtain ⟨i,hi,hib⟩:=hd.info (w:=w)
 have hinfo:∀ w:World,(typeInfo e).run P w = .ok i w:=fun w'=>by
  have hq:=hd
  obtain ⟨i',u',e1,_⟩:=hq
  have a1:=run_typeInfo (P:=P) w e1
  rw [hi] at a1
  cases a1
  exact run_typeInfo w' e1
 have hn:¬ (n+ys.length≤c):=by omega
 have hx1:¬ (9223372036854775807 < (n:Int)+(ys.length:Int)∧i.bytes=0):=by rintro ⟨_,h⟩;omega
 have hx2:¬ (281474976710656 < Builtin.nextslicecap (n+ys.length) c * i.bytes):=by rw [hib.2.1];omega
 have hfo:(Question.appendCap (n+ys.length) c e).forced=false:=rfl
 have ho':=hold (w.drew) rfl
 have hn':=hsrc.first (w.drew) rfl
 have hlen:=hsrc.len
 have hsize:=fun w=>hd.sizeOf (w:=w)
 have hzero:=fun w=>hd.zero (w:=w)
 rcases hdu with rfl|⟨e',rfl⟩<;>
 ·simp [Builtin.append_,ht,hu,hsize,hlen,hn,hinfo,hx1,hx2,hfo,ho',hn',hzero,newRow]
  have hap:∀ z:Array Value,olds.toArray ++ (news.toArray ++ z)=(olds ++ news).toArray ++ z:=fun z=>by
   apply Array.ext'
   simp
  simp only [World.pushed,World.alloc,capOf,hap,and_self]
theorem run_append_room' {P:Program} {w:World} {t u ty e:TypeId} {d:TyD} {du:TypeDesc} (ht:∀ w:World,(underlying t).run P w = .ok (.slice e) w) (hu:∀ w:World,(underlying u).run P w = .ok du w) (hdu:du = .string∨∃ e',du = .slice e') (hd:TyOK P e d)
  {g o n c:Nat} {cur:Array Value} {tt:TypeId} {v:Value} {news:List Value} {ys:List HV} {G:Ghost} (hg:w.heap[g]? = some (.cells cur tt (0,0))) (hsrc:Src P G w d.size v ys news)
  (hroom:n+ys.length≤c) (hfit:o+n * d.size+news.length≤cur.size) :
  (Builtin.append_ #[t,u] ty #[.slice (some ⟨g,o,none⟩) n c,v]).run P w =
   .ok (.slice (some ⟨g,o,none⟩) (n+ys.length) c) (w.setRow g (cur.toList.take (o+n * d.size) ++ news ++ cur.toList.drop (o+n * d.size+news.length)).toArray):=by
 have hst:=run_storeCells_at P g (o+n * d.size) tt news 0 cur w hg (by simpa using hfit) (fun u hu=>vkd_oneCell (hsrc.one u hu))
 simp only [Nat.add_zero] at hst
 have hn':=hsrc.first w rfl
 have hlen:=hsrc.len
 have hsize:=fun w=>hd.sizeOf (w:=w)
 rcases hdu with rfl|⟨e',rfl⟩<;>simp [Builtin.append_,ht,hu,hsize,hlen,hroom,hn',add_plain,hst]
theorem run_append_none {P:Program} {w:World} {t u ty e:TypeId} {d:TyD} {du:TypeDesc} (ht:∀ w:World,(underlying t).run P w = .ok (.slice e) w) (hu:∀ w:World,(underlying u).run P w = .ok du w) (hdu:du = .string∨∃ e',du = .slice e') (hd:TyOK P e d)
  {base:Option Addr} {n c:Nat} {v:Value} {news:List Value} {G:Ghost} (hsrc:Src P G w d.size v [] news) (hn:n≤c) :
  (Builtin.append_ #[t,u] ty #[.slice base n c,v]).run P w = .ok (.slice base n c) w:=by
 have hn':=hsrc.first w rfl
 have hlen:=hsrc.len
 have hsize:=fun w=>hd.sizeOf (w:=w)
 have hnil:news=[]:=by have:=hsrc.length;simpa using this
 subst hnil
 simp only [List.length_nil] at hn' hlen
 rcases hdu with rfl|⟨e',rfl⟩<;>cases base<;>simp [Builtin.append_,ht,hu,hsize,hlen,hn,hn',storeCells]
end
end Go.Proofs.Hk

namespace Go.Proofs.Hk
noncomputable section
open Go
/-- A row that has moved to a new block, or is new. -/
def Ghost.grown (G:Ghost) (r n B e ce lim:Nat) (vs:Array Value):Ghost:=
 {K:=fun b o=>if b=B then (if o < e then vs[o]? else none) else G.K b o
  om:=G.om
  top:=fun q=>if q=r then some ⟨n,B,e,ce⟩ else G.top q
  role:=fun b=>if b=B then some r else G.role b
  lim:=lim
  df:=G.df}
theorem post_grown {G:Ghost} {s s':HS} {w w':World} (h:SRel G s w) (hw:w'.heap=w.heap) {r n e ce lim:Nat} {vs:Array Value} {t:TypeId} (ho:w'.os=w.os) (ht:w'.tape=w.tape) (hp:w'.output=w.output)
  (hr:(G.lim≤r∧lim=r+1∧s'=(r,.tok n)::s)∨(r∈keys s∧lim=G.lim∧s'=hset s r (.tok n)∧∀ tp,G.top r=some tp→tp.n < n))
  (hce:ce≤vs.size) :
  Post s G w s' (G.grown r n w.heap.size e ce lim vs) (World.pushed w' (.cells vs t)):=by
 have hsz:w'.heap.size=w.heap.size:=by rw [hw]
 have hlt:∀ b,b < w.heap.size→(World.pushed w' (.cells vs t)).heap[b]? = w.heap[b]?:=fun b hb=>by rw [pushed_lt w' _ (by omega),hw]
 have hnew:(World.pushed w' (.cells vs t)).heap[w.heap.size]? = some (.cells vs t (0,0)):=by rw [←hsz];exact pushed_new w' _
 have hrl:r < lim∧G.lim≤lim:=by
  rcases hr with ⟨h1,h2,_⟩|⟨h1,h2,_⟩
  ·omega
  ·have:=h.lt_key h1;omega
 have le:G.Le (G.grown r n w.heap.size e ce lim vs):=by
  refine ⟨fun b o v e'=>?_,fun _ _ e'=>e',fun q tp e'=>?_,rfl⟩
  ·have:=h.K_lt e'
   simp only [Ghost.grown]
   rw [if_neg (by omega)];exact e'
  ·simp only [Ghost.grown]
   split
   ·rename_i hq
    subst hq
    rcases hr with ⟨h1,_⟩|⟨_,_,_,hlt'⟩
    ·have:=h.lt_top e';omega
    ·have:=hlt' _ e'
     exact ⟨_,rfl,by simp only [];omega,fun hq=>by simp only [] at hq;omega⟩
   ·exact ⟨tp,e',Nat.le_refl _,fun _=>rfl⟩
 have hothers:∀ q x,q≠r→(q,x)∈s→holds (G.grown r n w.heap.size e ce lim vs) (World.pushed w' (.cells vs t)) q x:=fun q x hne hm=>by
  have ho:=h.holds q x hm
  cases x with
  |cells cs t'=>
   obtain ⟨b,us,e1,ro,hh,hc,hK⟩:=ho
   have hb:=(h.role b q ro).1
   exact ⟨b,us,e1,by simp only [Ghost.grown];rw [if_neg (by omega)];exact ro,by rw [hlt b hb];exact hh,relCs.mono le _ _ hc,fun o=>by simp only [Ghost.grown];rw [if_neg (by omega)];exact hK o⟩
  |map es=>
   obtain ⟨b,ents,cl,e1,ro,hh,hc⟩:=ho
   have hb:=(h.role b q ro).1
   exact ⟨b,ents,cl,e1,by simp only [Ghost.grown];rw [if_neg (by omega)];exact ro,by rw [hlt b hb];exact hh,relMap.mono le _ _ hc⟩
  |tok m=>
   obtain ⟨tp,e1,hn,hq⟩:=ho
   refine ⟨tp,by simp only [Ghost.grown];rw [if_neg hne];exact e1,hn,fun hlt'=>?_⟩
   obtain ⟨ro,us,t',hh,hc,hK⟩:=hq hlt'
   have hb:=(h.role _ q ro).1
   exact ⟨by simp only [Ghost.grown];rw [if_neg (by omega)];exact ro,us,t',by rw [hlt _ hb];exact hh,hc,fun o ho=>by simp only [Ghost.grown];rw [if_neg (by omega)];exact hK o ho⟩
  |void=>
   obtain ⟨h0,h1,h2,h3⟩:=ho
   exact ⟨Nat.lt_of_lt_of_le h0 hrl.2,h1,by simp only [Ghost.grown];rw [if_neg hne];exact h2,fun b=>by
    simp only [Ghost.grown]
    split
    ·simp;exact fun e=>hne e.symm
    ·exact h3 b⟩
  |loop L=>exact ho.move rfl le.to0 (fun b hr=>⟨by rw [hlt b (h.role b q hr).1],by simp only [Ghost.grown];rw [if_neg (by have:=(h.role b q hr).1;omega)];exact hr,fun o=>by simp only [Ghost.grown];rw [if_neg (by have:=(h.role b q hr).1;omega)]⟩)
  |row cs' sz' t''=>exact ho.move rfl le.to0 (fun b hr=>⟨by rw [hlt b (h.role b q hr).1],by simp only [Ghost.grown];rw [if_neg (by have:=(h.role b q hr).1;omega)];exact hr,fun o=>by simp only [Ghost.grown];rw [if_neg (by have:=(h.role b q hr).1;omega)]⟩)
 have hmine:holds (G.grown r n w.heap.size e ce lim vs) (World.pushed w' (.cells vs t)) r (.tok n):=by
  refine ⟨⟨n,w.heap.size,e,ce⟩,by simp [Ghost.grown],rfl,fun _=>⟨by simp [Ghost.grown],vs,t,hnew,hce,fun o ho=>?_⟩⟩
  simp only [Ghost.grown,if_true] at ho ⊢
  rw [if_neg (by omega)]
 have hsub:∀ q,q∈keys s'→q∈keys s∨G.lim≤q:=fun q hq=>by
  rcases hr with ⟨h1,_,rfl⟩|⟨_,_,rfl,_⟩
  ·simp only [keys,List.map_cons,List.mem_cons] at hq
   rcases hq with rfl|hq
   ·exact .inr h1
   ·exact .inl hq
  ·rw [hset_keys] at hq;exact .inl hq
 refine ⟨⟨fun b o v e'=>?_,?_,fun q x hq=>?_,fun q hq=>?_,fun b q e'=>?_⟩,⟨le,by simp only [World.pushed,Array.size_push];omega,fun b hb _=>⟨hlt b hb,by simp only [Ghost.grown];rw [if_neg (by omega)],fun o=>by simp only [Ghost.grown];rw [if_neg (by omega)]⟩,fun q tp e' hq=>?_,hrl.2,ho,ht,hp,fun q h0 hk h1 h2 h3=>by
  have hne:q≠r:=fun e=>by
   subst e
   rcases hr with ⟨h1,_⟩|⟨hk',_⟩
   ·omega
   ·exact hk hk'
  exact ⟨h1,by simp only [Ghost.grown];rw [if_neg hne];exact h2,fun b=>by
   simp only [Ghost.grown]
   split
   ·simp;exact fun e=>hne e.symm
   ·exact h3 b⟩⟩,hsub⟩
 ·simp only [Ghost.grown] at e'
  split at e'
  ·rename_i hb
   subst hb
   split at e'
   ·simp only [World.cell?,hnew,Option.isSome_none,Bool.false_eq_true,if_false];exact e'
   ·cases e'
  ·have h1:=h.kw b o v e'
   have hb:=h.K_lt e'
   simp only [World.cell?,hlt b hb] at h1 ⊢
   exact h1
 ·rcases hr with ⟨h1,_,rfl⟩|⟨_,_,rfl,_⟩
  ·simp only [keys,List.map_cons,List.nodup_cons]
   exact ⟨fun hm=>by have:=h.lt_key hm;omega,h.keys⟩
  ·rw [hset_keys];exact h.keys
 ·rcases hr with ⟨h1,_,rfl⟩|⟨_,_,rfl,_⟩
  ·rcases List.mem_cons.1 hq with hq1|hq1
   ·cases hq1;exact hmine
   ·have hk:q < G.lim:=h.lt_key (List.mem_map.2 ⟨_,hq1,rfl⟩)
    exact hothers q x (by omega) hq1
  ·rcases hset_mem h.keys hq with ⟨rfl,rfl⟩|⟨hne,hm⟩
   ·exact hmine
   ·exact hothers q x hne hm
 ·simp only [Ghost.grown] at hq ⊢
  have:=h.fresh q (by omega)
  rw [if_neg (by omega)]
  exact this
 ·simp only [Ghost.grown,World.pushed,Array.size_push] at e' ⊢
  split at e'
  ·rename_i hb;subst hb;cases e';exact ⟨by omega,hrl.1⟩
  ·have:=h.role b q e';omega
 ·simp only [Ghost.grown]
  rw [if_neg ?_]
  ·exact e'
  ·rintro rfl
   rcases hr with ⟨h1,_⟩|⟨h1,_⟩
   ·have:=h.lt_top e';omega
   ·exact hq h1
theorem zeroCells_size (z:Array Value) (n:Nat):(Builtin.zeroCells z n).size=n * z.size:=by simp [Builtin.zeroCells]
/-- The new row's elements. -/
theorem relAts_new {G G':Ghost} (le:G.Le G') {sz:Nat} {rd':Nat→Option Value} {l ys:List HV} {news rest:List Value} {olds:List Value}
  (ho:olds.length=l.length * sz) (hold:∀ (G':Ghost) (rd':Nat→Option Value) (o':Nat),G.Le G'→(∀ j,j < olds.length→rd' (o'+j)=olds[j]?)→relAts G' l rd' o' sz)
  (hn:news.length=ys.length * sz) (hnew:∀ (G':Ghost) (rd:Nat→Option Value) (o:Nat),G.Le G'→(∀ j,j < news.length→rd (o+j)=news[j]?)→relAts G' ys rd o sz)
  (hr:∀ j,j < (l.length+ys.length) * sz→rd' j=(olds ++ news ++ rest)[j]?):relAts G' (l ++ ys) rd' 0 sz:=by
 have hm:(l.length+ys.length) * sz=olds.length+news.length:=by rw [Nat.add_mul,ho,hn]
 refine relAts_append (hold G' rd' 0 le fun j hj=>?_) (hnew G' rd' _ le fun j hj=>?_)
 ·rw [Nat.zero_add,hr j (by omega),List.append_assoc,List.getElem?_append_left (by omega)]
 ·rw [Nat.zero_add,hr _ (by omega),←ho,List.append_assoc,List.getElem?_append_right (by omega),List.getElem?_append_left (by omega)]
  congr 1;omega
end
end Go.Proofs.Hk

namespace Go.Proofs.Hk
noncomputable section
open Go
theorem relCs_of {G:Ghost} : ∀ {l:List HV} {us:List Value},l.length=us.length→(∀ (i:Nat) (x:HV) (u:Value),l[i]? = some x→us[i]? = some u→x.kd = .one∧relC G x [u])→relCs G l us
 |[],[],_,_=>by simp [relCs]
 |[],_::_,h,_=>by simp at h
 |_::_,[],h,_=>by simp at h
 |x::l,u::us,h,k=>by
  simp only [relCs]
  exact ⟨u,us,rfl,k 0 x u rfl rfl,relCs_of (by simpa using h) fun i y v h1 h2=>k (i+1) y v (by simpa using h1) (by simpa using h2)⟩
theorem flatten_replicate_get {α:Type} (l:List α) (hl:0 < l.length):∀ (n i:Nat),(List.replicate n l).flatten[i]? = if i < n * l.length then l[i % l.length]? else none
 |0,i=>by simp
 |n+1,i=>by
  simp only [List.replicate_succ,List.flatten_cons]
  by_cases h:i < l.length
  ·rw [List.getElem?_append_left h,if_pos (by rw [Nat.succ_mul];omega),Nat.mod_eq_of_lt h]
  ·rw [List.getElem?_append_right (by omega),flatten_replicate_get l hl n]
   have e:(i - l.length) % l.length=i % l.length:=by
    conv=>rhs;rw [show i=(i - l.length)+l.length from by omega,Nat.add_mod_right]
   rw [e]
   have:(i - l.length < n * l.length)=(i < (n+1) * l.length):=by rw [Nat.succ_mul];simp;omega
   simp only [this]
theorem hrep_length (n:Nat) (l:List HV):(hrep n l).length=n * l.length:=by
 unfold hrep
 split
 ·simp
 ·simp
theorem hrep_eq (n:Nat) (l:List HV):hrep n l=(List.replicate n l).flatten:=by
 unfold hrep
 split
 ·rename_i z
  induction n with
  |zero=>rfl
  |succ n ih=>simp [List.replicate_succ,←ih]
 ·rfl
theorem rep_rel {G:Ghost} {z:HV} {d:Value} (hz:rel G z d) (hk:z.kd≠.tup) (n:Nat) (hs:0 < d.cells.size):relCs G (hrep n z.cells) ((Array.range (n * d.cells.size)).map (fun x=>d.cells[x % d.cells.size]!)).toList:=by
 have hc:=rel_cells hz hk
 have hl:=relCs_length hc
 simp only [Array.length_toList] at hl
 refine relCs_of (by rw [hrep_length];simp [hl]) fun i x u h1 h2=>?_
 rw [hrep_eq,flatten_replicate_get _ (by omega)] at h1
 split at h1
 ·rename_i hi
  have hm:i % d.cells.size < d.cells.size:=Nat.mod_lt _ hs
  rw [←hl] at h1
  obtain ⟨v,e,h3⟩:=relCs_get4 hc _ _ h1
  have:u=v:=by
   have e1:d.cells[i % d.cells.size]! = v:=by
    have:d.cells[i % d.cells.size]? = some v:=by simpa using e
    rw [getElem!_def,this]
   simp only [Array.toList_map,Array.toList_range,List.getElem?_map] at h2
   rw [List.getElem?_range (by rw [hl];exact hi)] at h2
   simp only [Option.map_some,Option.some.injEq] at h2
   rw [←h2,e1]
  subst this
  exact h3
 ·cases h1
theorem zero_ok0 (c:Cx) {G:Ghost} {t:TypeId} {z:HV} (h:hzero c t=some z):∃ d,c.ty t=some d∧rel G z d.zero:=by
 unfold hzero at h
 split at h
 ·cases h
 ·rename_i d hd
  refine ⟨d,hd,?_⟩
  split at h
  ·rename_i cs hz
   split at h
   ·rename_i hone
    cases h
    rw [hz]
    simpa using rel_agg (relCs_map_v G cs.toList fun u hu=>by
     have:=(List.all_eq_true.1 hone) u hu
     cases u<;>first|rfl|cases this)
   ·cases h
  ·cases h
  ·rename_i v h1 h2
   cases h
   exact rel_v G (h:=by
    cases hv:d.zero<;>first|rfl|exact absurd hv (h1 _)|exact absurd hv (h2 _))
theorem relC_cells {G:Ghost} {x:HV} {cs:List Value} (h:relC G x cs) (hk:x.kd≠.tup):relCs G x.cells cs:=by
 by_cases ho:x.kd = .one
 ·obtain ⟨u,rfl,_⟩:=relC_one h ho
  have:x.cells=[x]:=by cases x<;>first|rfl|cases ho
  rw [this]
  simp only [relCs]
  exact ⟨u,[],rfl,⟨ho,h⟩,rfl⟩
 ·cases x with
  |agg l=>simpa [HV.cells,relC] using h
  |tup l=>exact absurd rfl hk
  |_=>exact absurd rfl ho
theorem relAts_flatMap {G:Ghost} {sz:Nat} {rd:Nat→Option Value} : ∀ {l:List HV} {o:Nat} {us:List Value},relAts G l rd o sz→us.length=l.length * sz→(∀ j,j < us.length→rd (o+j)=us[j]?)→relCs G (l.flatMap HV.cells) us
 |[],o,us,_,hl,_=>by
  have:us=[]:=List.length_eq_zero_iff.1 (by simpa using hl)
  subst this
  simp [relCs]
 |x::xs,o,us,h,hl,hr=>by
  simp only [relAts] at h
  obtain ⟨⟨cs,hc,hk,hx,hxr⟩,h2⟩:=h
  have hlen:(x::xs).length * sz=sz+xs.length * sz:=by rw [List.length_cons,Nat.succ_mul,Nat.add_comm]
  rw [hlen] at hl
  have e:us=cs ++ us.drop sz:=by
   refine List.ext_getElem? fun j=>?_
   by_cases hj:j < sz
   ·rw [List.getElem?_append_left (by omega),←hx j hj,hr j (by omega)]
   ·rw [List.getElem?_append_right (by omega),List.getElem?_drop,hc]
    congr 1;omega
  rw [e,List.flatMap_cons]
  refine relCs_append (relC_cells hxr hk) (relAts_flatMap h2 (by simp;omega) fun j hj=>?_)
  rw [Nat.add_assoc,hr (sz+j) (by simp at hj;omega),List.getElem?_drop]
end
end Go.Proofs.Hk

namespace Go.Proofs.Hk
noncomputable section
open Go
theorem more_ok (P:Program) {G:Ghost} {s:HS} {w:World} (hs:SRel G s w) {d:TyD} {y:HV} {v:Value} {ys:List HV} (hy:rel G y v) (h:hmore d y=some ys):∃ news,Src P G w d.size v ys news:=by
 unfold hmore at h
 split at h
 ·split at h
  ·rename_i hz
   cases h
   rw [←Nat.eq_of_beq_eq_true hz]
   exact src_list P hs hy
  ·cases h
 ·cases h
  rw [rel_v_eq hy]
  exact ⟨[],src_nil P G w d.size⟩
 ·split at h
  ·rename_i hz
   cases h
   rw [rel_v_eq hy,Nat.eq_of_beq_eq_true hz]
   exact ⟨_,src_string P G w _⟩
  ·cases h
 ·cases h
theorem sliceElem_ok {c:Cx} {t:TypeId} {d:TyD} (h:sliceElem c t=some d):∃ e,TyOK c.P e d∧∀ w,(underlying t).run c.P w = .ok (.slice e) w:=by
 unfold sliceElem at h
 split at h
 ·rename_i size bytes ag z e hd
  exact ⟨e,c.ty_ok e d h,fun w=>(c.ty_ok t _ hd).slice rfl⟩
 ·cases h
theorem isRow_ok {c:Cx} {t:TypeId} (h:isRow c t=true):∃ du,(du = .string∨∃ e',du = .slice e')∧∀ w,(underlying t).run c.P w = .ok du w:=by
 unfold isRow at h
 split at h
 ·rename_i size bytes ag z e hd
  exact ⟨_,.inr ⟨e,rfl⟩,fun w=>(c.ty_ok t _ hd).slice rfl⟩
 ·rename_i size bytes ag z hd
  exact ⟨_,.inl rfl,fun w=>(c.ty_ok t _ hd).string rfl⟩
 ·cases h
theorem hset_same {s:HS} {r:Nat} {x:Res} (h:hget s r=some x):hset s r x=s:=by
 induction s with
 |nil=>simp only [hset_nil]
 |cons p s ih=>
  obtain ⟨q,y⟩:=p
  simp only [hget_cons] at h
  simp only [hset_cons]
  split at h
  ·rename_i e;cases h;rw [if_pos e,e]
  ·rename_i e;rw [if_neg e,ih h]
/-- A row that is at its place as it is appended to: its cells. -/
theorem old_list {G:Ghost} {w:World} {s:HS} (P:Program) (hs:SRel G s w) {sz:Nat} {l:List HV} {b o:Nat} (ha:relAts G l (G.K b) o sz) :
  ∃ olds:List Value,olds.length=l.length * sz∧(∀ c w',w'.heap=w.heap→(Builtin.firstCells sz l.length (.slice (some ⟨b,o,none⟩) l.length c)).run P w' = .ok olds.toArray w')∧
   ∀ (G':Ghost) (rd':Nat→Option Value) (o':Nat),G.Le G'→(∀ j,j < olds.length→rd' (o'+j)=olds[j]?)→relAts G' l rd' o' sz:=by
 obtain ⟨olds,n1,n2,n3,n4⟩:=relAts_cells ha
 refine ⟨olds,n1,fun c w' hw=>?_,n4⟩
 refine run_firstCells_some w' sz l.length ⟨b,o,none⟩ l.length c olds n1 fun j u e=>?_
 rw [add_plain,cell_of_heap hw]
 have hj:=(List.getElem?_eq_some_iff.1 e).1
 have:=n2 j hj
 rw [e] at this
 exact hs.kw _ _ _ this
theorem new_size (d:TyD) {P:Program} {e:TypeId} (hd:TyOK P e d) {olds news:List Value} {n m cap:Nat} (ho:olds.length=n * d.size) (hn:news.length=m * d.size) (hc:n+m≤cap) :
  cap * d.size≤(olds.toArray ++ news.toArray ++ Builtin.zeroCells d.zero.cells (cap - (n+m))).size:=by
 simp only [Array.size_append,List.size_toArray,zeroCells_size,hd.zsize,ho,hn]
 rw [←Nat.add_mul,←Nat.add_mul]
 exact Nat.mul_le_mul_right _ (by omega)
/-- What a move to a new block gives. -/
theorem moved {c:Cx} {G:Ghost} {s s':HS} {w:World} (hs:SRel G s w) {t u ty e:TypeId} {d:TyD} {du:TypeDesc} (ht:∀ w:World,(underlying t).run c.P w = .ok (.slice e) w) (hu:∀ w:World,(underlying u).run c.P w = .ok du w) (hdu:du = .string∨∃ e',du = .slice e') (hd:TyOK c.P e d)
  {base:Option Addr} {l ys:List HV} {cp:Nat} {v:Value} {olds news:List Value}
  (hold:∀ w',w'.heap=w.heap→(Builtin.firstCells d.size l.length (.slice base l.length cp)).run c.P w' = .ok olds.toArray w') (hol:olds.length=l.length * d.size)
  (hor:∀ (G':Ghost) (rd':Nat→Option Value) (o':Nat),G.Le G'→(∀ j,j < olds.length→rd' (o'+j)=olds[j]?)→relAts G' l rd' o' d.size) (hsrc:Src c.P G w d.size v ys news)
  (hc:cp < l.length+ys.length) (hb:0 < d.bytes) (hfit:(l.length+ys.length) * d.bytes≤140737488355328)
  {r st n lim:Nat} (hst:st+(l.length+ys.length)=n)
  (hr:(G.lim≤r∧lim=r+1∧s'=(r,.tok n)::s)∨(r∈keys s∧lim=G.lim∧s'=hset s r (.tok n)∧∀ tp,G.top r=some tp→tp.n < n)) :
  Gives s G w ((do pure (Next.value (←Builtin.append_ #[t,u] ty #[.slice base l.length cp,v])):Sem Next).run c.P w) (.list (.own r st) d.size (l ++ ys)) s':=by
 have run:=run_append_new (ty:=ty) ht hu hdu hd hold hsrc hc hb hfit
 have hcap:=capOf_ge w (l.length+ys.length) cp e
 have hz:=new_size d hd hol hsrc.length hcap
 have post:=post_grown (w':=w.drew) (t:=e) hs rfl (e:=(l.length+ys.length) * d.size) rfl rfl rfl hr hz
 refine ⟨_,_,_,.inl (by rw [Sem.run_bind,run];rfl),?_,post⟩
 have hlen:(l ++ ys).length=l.length+ys.length:=List.length_append
 suffices key:rel (G.grown r n w.heap.size ((l.length+ys.length) * d.size) (capOf w (l.length+ys.length) cp e * d.size) lim (olds.toArray ++ news.toArray ++ Builtin.zeroCells d.zero.cells (capOf w (l.length+ys.length) cp e - (l.length+ys.length)))) (.list (.own r st) d.size (l ++ ys)) (.slice (some ⟨w.heap.size,0,none⟩) (l ++ ys).length (capOf w (l.length+ys.length) cp e)) by
  rwa [hlen] at key
 refine list_rel (by rw [hlen];exact hcap) (relAts_new post.ext.le (rest:=(Builtin.zeroCells d.zero.cells (capOf w (l.length+ys.length) cp e - (l.length+ys.length))).toList) hol hor hsrc.length hsrc.rel fun j hj=>?_) ?_
 ·simp only [Ghost.grown,if_true]
  rw [if_pos hj,←Array.getElem?_toList]
  simp
 ·refine ⟨⟨n,w.heap.size,(l.length+ys.length) * d.size,_⟩,by simp only [Ghost.grown,if_true];rfl,(show st+(l ++ ys).length≤n by omega),fun _=>.inl ⟨rfl,?_,?_⟩⟩
  ·simp [hlen]
  ·simp [hlen]
/-- The same, as a row to be written. -/
theorem movedArr {c:Cx} {G:Ghost} {s:HS} {w:World} (hs:SRel G s w) {t u ty e:TypeId} {d:TyD} {du:TypeDesc} (ht:∀ w:World,(underlying t).run c.P w = .ok (.slice e) w) (hu:∀ w:World,(underlying u).run c.P w = .ok du w) (hdu:du = .string∨∃ e',du = .slice e') (hd:TyOK c.P e d) (hce:c.ty e=some d) {z:HV} (hz:hzero c e=some z) (hkz:kdOk z=true) (hsz:0 < d.size)
  {base:Option Addr} {l ys:List HV} {cp:Nat} {v:Value} {olds news:List Value}
  (hold:∀ w',w'.heap=w.heap→(Builtin.firstCells d.size l.length (.slice base l.length cp)).run c.P w' = .ok olds.toArray w') (hol:olds.length=l.length * d.size)
  (hor:∀ (G':Ghost) (rd':Nat→Option Value) (o':Nat),G.Le G'→(∀ j,j < olds.length→rd' (o'+j)=olds[j]?)→relAts G' l rd' o' d.size) (hsrc:Src c.P G w d.size v ys news)
  (hc:cp < l.length+ys.length) (hb:0 < d.bytes) (hfit:(l.length+ys.length) * d.bytes≤140737488355328) :
  Gives s G w ((do pure (Next.value (←Builtin.append_ #[t,u] ty #[.slice base l.length cp,v])):Sem Next).run c.P w) (.arr G.lim 0 (l.length+ys.length) (capOf w (l.length+ys.length) cp e) d.size) ((G.lim,.cells ((l ++ ys).flatMap HV.cells ++ hrep (capOf w (l.length+ys.length) cp e - (l.length+ys.length)) z.cells) e)::s):=by
 have run:=run_append_new (ty:=ty) ht hu hdu hd hold hsrc hc hb hfit
 have p0:Post s G w s G w.drew:=Post.drawn hs rfl rfl rfl rfl
 have hs1:=p0.srel
 have hzs:=hd.zsize
 obtain ⟨d',hd',hzr⟩:=zero_ok0 c (G:=G) hz
 rw [hce] at hd'
 cases hd'
 have c1:relCs G (l.flatMap HV.cells) olds:=relAts_flatMap (rd:=fun j=>olds[j]?) (hor G _ 0 (.refl G) fun j _=>by rw [Nat.zero_add]) hol fun j _=>by rw [Nat.zero_add]
 have c2:relCs G (ys.flatMap HV.cells) news:=relAts_flatMap (rd:=fun j=>news[j]?) (hsrc.rel G _ 0 (.refl G) fun j _=>by rw [Nat.zero_add]) hsrc.length fun j _=>by rw [Nat.zero_add]
 have c3:=rep_rel hzr (kdOk_ne hkz) (capOf w (l.length+ys.length) cp e - (l.length+ys.length)) (by rw [hzs];exact hsz)
 refine ⟨_,_,G.newObj w.drew.heap.size,.inl (by rw [Sem.run_bind,run];rfl),rel_leaf (by simp only [relC];exact ⟨w.drew.heap.size,by simp [Ghost.newObj],rfl⟩) rfl,p0.trans hs (post_newObj hs1 _ _ ⟨w.drew.heap.size,_,by simp [Ghost.newObj],by simp [Ghost.newObj],pushed_new w.drew _,?_,fun o=>hs1.K_new (Nat.le_refl _) o⟩)⟩
 refine relCs.mono (Ghost.newObj_le hs1 _) _ _ ?_
 rw [List.flatMap_append]
 have:=relCs_append (relCs_append c1 c2) c3
 simpa [Builtin.zeroCells] using this
theorem append_ok (c:Cx) {s:HS} {G:Ghost} {w:World} (hs:SRel G s w) (t u:TypeId) {x y:HV} {p v:Value} (hx:rel G x p) (hy:rel G y v) (ty:TypeId) :
  ResOK c.P s G w ((do pure (Next.value (←Builtin.append_ #[t,u] ty #[p,v])):Sem Next).run c.P w) (happend c s t u x y):=by
 unfold happend
 split
 ·trivial
 ·rename_i d hse
  obtain ⟨e,hd,ht⟩:=sliceElem_ok hse
  split
  ·trivial
  ·rename_i hchk
   simp only [Bool.and_eq_true,Nat.blt_eq] at hchk
   obtain ⟨⟨hrow,hb⟩,hsz⟩:=hchk
   obtain ⟨du,hdu,hu⟩:=isRow_ok hrow
   split
   ·trivial
   ·rename_i ys hys
    obtain ⟨news,hsrc⟩:=more_ok c.P hs hy hys
    have grow:∀ {x:HV} {l:List HV} {base:Option Addr} {n:Nat} (hx:rel G x (.slice base n n)) (hn:n=l.length) (olds:List Value)
      (hold:∀ w',w'.heap=w.heap→(Builtin.firstCells d.size l.length (.slice base l.length l.length)).run c.P w' = .ok olds.toArray w') (hol:olds.length=l.length * d.size)
      (hor:∀ (G':Ghost) (rd':Nat→Option Value) (o':Nat),G.Le G'→(∀ j,j < olds.length→rd' (o'+j)=olds[j]?)→relAts G' l rd' o' d.size),
      ResOK c.P s G w ((do pure (Next.value (←Builtin.append_ #[t,u] ty #[.slice base n n,v])):Sem Next).run c.P w) (hgrow c s t d x l ys):=by
     intro x l base n hx hn olds hold hol hor
     subst hn
     rintro K ⟨hfit,hK⟩
     cases hyc:ys with
     |nil=>
      subst hyc
      exact ⟨x,s,hK,_,w,G,.inl (by rw [Sem.run_bind,run_append_none ht hu hdu hd hsrc (Nat.le_refl _)];rfl),hx,.refl hs⟩
     |cons y0 ys0=>
      have hK2:Grow2 (∀ r,r∉keys s→K (.list (.own r 0) d.size (l ++ ys)) ((r,.tok (l.length+ys.length))::s))
        (∃ e z,sliceElemT c t=some e∧hzero c e=some z∧kdOk z=true∧∀ r,r∉keys s→∀ cap,l.length+ys.length≤cap→K (.arr r 0 (l.length+ys.length) cap d.size) ((r,.cells ((l ++ ys).flatMap HV.cells ++ hrep (cap - (l.length+ys.length)) z.cells) e)::s)):=by
       rw [hyc] at hK ⊢;exact hK
      rcases hK2.out with hK'|⟨e',z,he',hz,hkz,hK'⟩
      rotate_left
      ·have hee:e'=e∧c.ty e=some d:=by
        unfold sliceElemT at he'
        unfold sliceElem at hse
        split at he'
        ·rename_i q1 q2 q3 q4 q5 hq
         cases he'
         rw [hq] at hse
         have h1:=(c.ty_ok t _ hq).slice (w:=w) rfl
         rw [ht w] at h1
         cases h1
         exact ⟨rfl,hse⟩
        ·cases he'
       obtain ⟨rfl,hce⟩:=hee
       exact ⟨_,_,hK' G.lim (fun hm=>by have:=hs.lt_key hm;omega) (capOf w (l.length+ys.length) l.length e') (capOf_ge _ _ _ _),movedArr hs ht hu hdu hd hce hz hkz hsz hold hol hor hsrc (by rw [hyc];simp) hb hfit⟩
      exact ⟨_,_,hK' G.lim (fun hm=>by have:=hs.lt_key hm;omega),moved hs ht hu hdu hd hold hol hor hsrc (by rw [hyc];simp) hb hfit (by omega) (.inl ⟨Nat.le_refl _,rfl,rfl⟩)⟩
    split
    ·have:=rel_v_eq hx
     subst this
     exact grow (l:=[]) hx rfl [] (fun w' _=>by simp [Builtin.firstCells]) (by simp) (fun _ _ _ _ _=>by simp only [relAts])
    ·rename_i sz l
     split
     ·rename_i hz
      have hz:=Nat.eq_of_beq_eq_true hz
      subst hz
      rcases rel_list hx with ⟨rfl,rfl,_⟩|⟨b,o,cp,rfl,hcp,ha,hcn⟩|⟨rfl,_,ad,rfl⟩
      ·exact grow (l:=[]) hx rfl [] (fun w' _=>by simp [Builtin.firstCells]) (by simp) (fun _ _ _ _ _=>by simp only [relAts])
      ·have hcn:cp=l.length:=hcn
       subst hcn
       obtain ⟨olds,o1,o2,o3⟩:=old_list c.P hs ha
       exact grow hx rfl olds (fun w' hw=>o2 _ w' hw) o1 o3
      ·exact grow (l:=[]) hx rfl [] (fun w' _=>run_firstCells_some w' _ 0 ad 0 0 [] (by simp) (fun j u e=>by simp at e)) (by simp) (fun _ _ _ _ _=>by simp only [relAts])
     ·trivial
    ·rename_i i st sz l
     split
     ·rename_i hz
      have hz:=Nat.eq_of_beq_eq_true hz
      subst hz
      intro rx hg
      cases rx with
      |tok n=>
       rintro K ⟨hn,hfit,hK⟩
       refine ⟨_,_,hK,?_⟩
       have hm:=hget_mem hg
       have hk:i∈keys s:=List.mem_map.2 ⟨_,hm,rfl⟩
       obtain ⟨tp,htp,htn,hown⟩:=hs.holds i _ hm
       have same:ys=[]→∀ {base cp},p = .slice base l.length cp→l.length≤cp→Gives s G w ((do pure (Next.value (←Builtin.append_ #[t,u] ty #[p,v])):Sem Next).run c.P w) (.list (.own i st) d.size (l ++ ys)) (hset s i (.tok (n+ys.length))):=by
        intro hnil base cp hp hcp
        subst hnil hp
        simp only [List.append_nil,List.length_nil,Nat.add_zero]
        rw [hset_same hg]
        exact ⟨_,w,G,.inl (by rw [Sem.run_bind,run_append_none ht hu hdu hd hsrc hcp];rfl),hx,.refl hs⟩
       have hne:ys≠[]→0 < ys.length:=fun h=>List.length_pos_iff.2 h
       rcases (rel_list hx).imp id or_comm.1 with ⟨rfl,rfl,_⟩|⟨_,hno,_⟩|⟨b,o,cp,rfl,hcp,ha,htok⟩
       ·by_cases hnil:ys=[]
        ·exact same hnil rfl (Nat.le_refl _)
        ·have h0:=hne hnil
         have:=moved (l:=[]) (olds:=[]) (cp:=0) (base:=none) (ty:=ty) hs ht hu hdu hd (fun w' _=>by simp [Builtin.firstCells]) (by simp) (fun _ _ _ _ _=>by simp only [relAts]) hsrc (by simpa using h0) hb (by simpa using hfit)
          (r:=i) (st:=st) (n:=n+ys.length) (lim:=G.lim) (s':=hset s i (.tok (n+ys.length))) (by simp at hn ⊢;omega) (.inr ⟨hk,rfl,rfl,fun tp' e'=>by rw [htp] at e';cases e';omega⟩)
         exact this
       ·exact absurd rfl (hno _ _)
       ·obtain ⟨olds,o1,o2,o3⟩:=old_list c.P hs ha
        by_cases hnil:ys=[]
        ·exact same hnil rfl hcp
        ·have h0:=hne hnil
         rcases Nat.lt_or_ge cp (l.length+ys.length) with hlt|hge
         ·exact moved hs ht hu hdu hd (fun w' hw=>o2 cp w' hw) o1 o3 hsrc hlt hb hfit (by omega) (.inr ⟨hk,rfl,rfl,fun tp' e'=>by rw [htp] at e';cases e';omega⟩)
         ·obtain ⟨tp',htp',_,hend⟩:=htok
          rw [htp] at htp'
          cases htp'
          obtain ⟨e1,e2,e3⟩:tp.b=b∧tp.e=o+l.length * d.size∧tp.ce=o+cp * d.size:=(hend (by omega)).resolve_right (fun h=>by omega)
          have hce:o+l.length * d.size+ys.length * d.size≤o+cp * d.size:=by
           rw [Nat.add_assoc,←Nat.add_mul];exact Nat.add_le_add_left (Nat.mul_le_mul_right _ hge) _
          have hpos:0 < ys.length * d.size:=Nat.mul_pos h0 hsz
          obtain ⟨ro,cur,tt,hh,hcur,hKn⟩:=hown (by omega)
          rw [e1] at ro hh hKn
          have hnl:=hsrc.length
          have run:=run_append_room' (ty:=ty) ht hu hdu hd (n:=l.length) (c:=cp) (o:=o) hh hsrc hge (by omega)
          let cur':=(cur.toList.take (o+l.length * d.size) ++ news ++ cur.toList.drop (o+l.length * d.size+news.length)).toArray
          let G':Ghost:={ G with K:=fun b' o'=>if b'=b∧tp.e≤o'∧o' < tp.e+news.length then cur'[o']? else G.K b' o',top:=fun q=>if q=i then some ⟨n+ys.length,b,tp.e+news.length,tp.ce⟩ else G.top q}
          have hcl:cur'.size=cur.size:=by simp [cur'];omega
          have hmid:∀ j,j < news.length→cur'[tp.e+j]? = news[j]?:=fun j hj=>by
           rw [←Array.getElem?_toList]
           simp only [cur']
           rw [List.append_assoc,List.getElem?_append_right (by simp;omega)]
           have hlt:(cur.toList.take (o+l.length * d.size)).length=tp.e:=by simp;omega
           rw [hlt,show tp.e+j - tp.e=j from by omega,List.getElem?_append_left hj]
          have hlow:∀ o',o' < tp.e→cur'[o']? = cur[o']?:=fun o' ho'=>by
           rw [←Array.getElem?_toList,←Array.getElem?_toList]
           simp only [cur']
           rw [List.append_assoc,List.getElem?_append_left (by simp;omega),List.getElem?_take_of_lt (by omega)]
          have le:G.Le G':=by
           refine ⟨fun b' o' v' e'=>?_,fun _ _ e'=>e',fun q tq e'=>?_,rfl⟩
           ·simp only [G']
            rw [if_neg ?_]
            ·exact e'
            ·rintro ⟨rfl,h1,_⟩
             rw [hKn o' h1] at e';cases e'
           ·simp only [G']
            split
            ·rename_i hq
             subst hq
             rw [htp] at e'
             cases e'
             exact ⟨_,rfl,by simp only [];omega,fun hq=>by simp only [] at hq;omega⟩
            ·exact ⟨tq,e',Nat.le_refl _,fun _=>rfl⟩
          have post:Post s G w (hset s i (.tok (n+ys.length))) G' (w.setRow b cur'):=by
           refine post_write hs hh ro hk ?_ le (fun b' hb' o'=>by simp only [G'];rw [if_neg (fun h=>hb' h.1)]) (fun o' v' e'=>?_) rfl rfl (fun q hq=>by simp only [G'];rw [if_neg hq]) rfl (setRow_size ..)
           ·refine ⟨⟨n+ys.length,b,tp.e+news.length,tp.ce⟩,by simp [G'],rfl,fun _=>⟨ro,cur',tt,setRow_heap w b cur _ tt _ hh,by rw [hcl];exact hcur,fun o' ho'=>?_⟩⟩
            simp only [G'] at ho' ⊢
            rw [if_neg (by omega)]
            exact hKn o' (by omega)
           ·simp only [G'] at e'
            split at e'
            ·exact e'
            ·rcases Nat.lt_or_ge o' tp.e with h1|h1
             ·have hcell:=hs.kw b o' v' e'
              simp only [World.cell?,hh,Option.isSome_none,Bool.false_eq_true,if_false] at hcell
              rw [hlow o' h1];exact hcell
             ·rw [hKn o' h1] at e';cases e'
          refine ⟨_,_,_,.inl (by rw [Sem.run_bind,run];rfl),?_,post⟩
          have hlen:(l ++ ys).length=l.length+ys.length:=List.length_append
          suffices key:rel G' (.list (.own i st) d.size (l ++ ys)) (.slice (some ⟨b,o,none⟩) (l ++ ys).length cp) by
           rwa [hlen] at key
          refine list_rel (by omega) (relAts_append (o3 G' _ o le fun j hj=>?_) (hsrc.rel G' _ _ le fun j hj=>?_)) ?_
          ·obtain ⟨olds',q1,q2,_,_⟩:=relAts_cells ha
           simp only [G']
           rw [if_neg (by omega)]
           have hqq:olds=olds':=by
            have a1:=o2 cp w rfl
            have a2:=run_firstCells_some (P:=c.P) w d.size l.length ⟨b,o,none⟩ l.length cp olds' q1 (fun j u e=>by
             rw [add_plain]
             have hj:=(List.getElem?_eq_some_iff.1 e).1
             have:=q2 j hj
             rw [e] at this
             exact hs.kw _ _ _ this)
            rw [a1] at a2
            simpa using a2
           rw [hqq] at hj ⊢
           exact q2 j hj
          ·simp only [G']
           rw [if_pos ⟨trivial,by omega,by omega⟩,←e2]
           exact hmid j hj
          ·refine ⟨⟨n+ys.length,b,tp.e+news.length,tp.ce⟩,by simp [G'],(show st+(l ++ ys).length≤n+ys.length by omega),fun _=>.inl ⟨rfl,?_,e3⟩⟩
           simp only [hlen,e2,hnl,Nat.add_mul];omega
      |void=>trivial
      |loop L=>trivial
      |row cs' sz' t''=>trivial
      |cells cs t'=>trivial
      |map es=>trivial
     ·trivial
    ·trivial
end
end Go.Proofs.Hk

namespace Go.Proofs.Hk
noncomputable section
open Go
theorem run_sliceBound {P:Program} {w:World} {k:IntKind} {n:Int} {y:Nat} {code:BoundsCode} (h0:0≤n) (h1:n.toNat≤y):(Instr.sliceBound (.int k n) y code).run P w = .ok n.toNat w:=by
 simp only [Instr.sliceBound,asIntOf,pure_bind]
 rw [if_pos ⟨h0,by omega⟩]
 rfl
def BoundRun (P:Program) (w:World) (u:Option Value) (dflt n:Nat):Prop:=
 match u with
 |none=>n=dflt
 |some v=>∀ y code,n≤y→(Instr.sliceBound v y code).run P w = .ok n w
/-- What a bound comes to. -/
theorem hbound_ok {P:Program} {s:HS} {G:Ghost} {w:World} {r:Result Next} {x:Option HV} {u:Option Value} {dflt:Nat} {k:Prop→Nat→OpRes}
  (hx:match x,u with|none,none=>True|some v,some u=>rel G v u|_,_=>False)
  (h:∀ (p:Prop) (n:Nat),(p→BoundRun P w u dflt n)→ResOK P s G w r (k p n)):ResOK P s G w r (hbound x dflt k):=by
 unfold hbound
 split
 ·cases u with
  |none=>exact h _ _ fun _=>rfl
  |some u=>exact hx.elim
 ·rename_i kd n
  cases u with
  |none=>exact hx.elim
  |some u=>
   have:=rel_v_eq hx
   subst this
   exact h _ _ fun h0 y code hy=>run_sliceBound h0 hy
 ·trivial
theorem tokCut_rel {G:Ghost} {t:Tok} {sz n b o c:Nat} (h:tokRel G t sz n b o c) (hn:n≤c) {lo hi:Nat} (hlo:lo≤hi) (hhi:hi≤n) {whole most:Bool} {m:Nat} (hw:whole=true→hi=n) (hm:most=true→m=hi) (hm':most=false→m=c) {o':Nat} (ho:o'=if m=lo then o else o+lo * sz) :
  tokRel G (t.cut lo whole most) sz (hi - lo) b o' (m - lo):=by
 cases most with
 |true=>
  show m - lo=hi - lo
  rw [hm rfl]
 |false=>
  have hmc:=hm' rfl
  subst hmc
  cases t with
  |no=>trivial
  |full=>
   cases whole with
   |false=>trivial
   |true=>
    show m - lo=hi - lo
    have:m=n:=h
    rw [hw rfl,this]
  |own i st=>
   obtain ⟨tp,e,h1,h2⟩:=h
   refine ⟨tp,e,by omega,fun hq=>?_⟩
   have hin:hi=n:=by omega
   have h2:=h2 (by omega)
   subst hin
   rcases h2 with ⟨q1,q2,q3⟩|⟨q1,q2⟩
   ·by_cases hml:m=lo
    ·have:hi=lo:=by omega
     have hmh:m=hi:=by omega
     refine .inr ⟨?_,by omega⟩
     rw [q2,q3,hmh]
    ·rw [if_neg hml] at ho
     subst ho
     refine .inl ⟨q1,?_,?_⟩
     ·rw [q2,Nat.add_assoc,←Nat.add_mul];congr 2;omega
     ·rw [q3,Nat.add_assoc,←Nat.add_mul];congr 2;omega
   ·exact .inr ⟨q1,by omega⟩
theorem tokCut_nil {G:Ghost} {t:Tok} (h:tokNil G t) {whole most:Bool} : tokNil G (t.cut 0 whole most):=by
 cases most with
 |true=>trivial
 |false=>
  cases t with
  |no=>trivial
  |full=>cases whole<;>trivial
  |own i st=>exact h
theorem relAts_cut {G:Ghost} {sz:Nat} {rd:Nat→Option Value} {l:List HV} {o lo hi m:Nat} (h:relAts G l rd o sz) (hlo:lo≤hi) (hhi:hi≤l.length) (hm:hi≤m):relAts G ((l.take hi).drop lo) rd (if m=lo then o else o+lo * sz) sz:=by
 split
 ·have:hi=lo:=by omega
  subst this
  rw [List.drop_of_length_le (by simp;omega)]
  simp only [relAts]
 ·exact relAts_drop lo (relAts_take hi h)
/-- A row, cut. -/
theorem list_cut {P:Program} {G:Ghost} {w:World} {t:TypeId} {d:TyD} {e:TypeId} (hu:∀ w,(underlying t).run P w = .ok (.slice e) w) (hd:TyOK P e d) {tk:Tok} {xs:List HV} {u:Value} (hx:rel G (.list tk d.size xs) u)
  {ul uh um:Option Value} {l h:Nat} (hl:l≤h) (hh:h≤xs.length) (whole most:Bool) (hw:whole=true→h=xs.length)
  (hb:∀ cp,xs.length≤cp→∃ m,(Instr.sliceBounds true xs.length cp ul uh um).run P w = .ok (l,h,m) w∧h≤m∧(most=true→m=h)∧(most=false→m=cp)) :
  ∃ v,(Instr.slice t u ul uh um).run P w = .ok v w∧rel G (.list (tk.cut l whole most) d.size ((xs.take h).drop l)) v:=by
 have hlen:((xs.take h).drop l).length=h - l:=by simp;omega
 rcases (rel_list hx).imp id or_comm.1 with ⟨rfl,rfl,htn⟩|⟨rfl,hno,ad,rfl⟩|⟨b,o,cp,rfl,hcp,ha,htok⟩
 ·obtain ⟨m,h1,h2,h3,h4⟩:=hb 0 (Nat.le_refl _)
  have hh0:h=0:=by simpa using hh
  have hl0:l=0:=by omega
  subst hh0 hl0
  have hm0:m=0:=by
   cases most with
   |false=>exact h4 rfl
   |true=>exact h3 rfl
  subst hm0
  refine ⟨.slice none 0 0,?_,?_⟩
  ·simp only [List.length_nil] at h1
   simp [Instr.slice,hu,h1,hd.sizeOf]
  ·simpa using list_rel_nil (tokCut_nil htn)
 ·obtain ⟨m,h1,h2,h3,h4⟩:=hb 0 (Nat.le_refl _)
  have hh0:h=0:=by simpa using hh
  have hl0:l=0:=by omega
  subst hh0 hl0
  have hm0:m=0:=by
   cases most with
   |false=>exact h4 rfl
   |true=>exact h3 rfl
  subst hm0
  simp only [List.length_nil] at h1
  refine ⟨.slice (some ad) 0 0,?_,?_⟩
  ·simp [Instr.slice,hu,h1,hd.sizeOf]
  ·refine list_rel_odd ad fun i st=>?_
   cases most with
   |true=>simp [Tok.cut]
   |false=>
    cases tk with
    |no=>simp [Tok.cut]
    |full=>cases whole<;>simp [Tok.cut]
    |own i' st'=>exact absurd rfl (hno _ _)
 ·obtain ⟨m,h1,h2,h3,h4⟩:=hb cp hcp
  refine ⟨.slice (some ⟨b,if m=l then o else o+l * d.size,none⟩) (h - l) (m - l),?_,?_⟩
  ·simp only [Instr.slice,Sem.run_bind,hu,Result.andThen_ok,h1,hd.sizeOf,Sem.run_pure]
   split<;>simp [add_plain]
  ·have:=list_rel (t:=tk.cut l whole most) (c:=m - l) (by rw [hlen];omega) (relAts_cut ha hl hh h2) (by rw [hlen];exact tokCut_rel htok hcp hl hh hw h3 h4 rfl)
   rwa [hlen] at this
theorem slice_ok (c:Cx) {s:HS} {G:Ghost} {w:World} (hs:SRel G s w) (t:TypeId) {x:HV} {u:Value} {lo hi mx:Option HV} {ul uh um:Option Value} (hx:rel G x u)
  (hlo:match lo,ul with|none,none=>True|some v,some u=>rel G v u|_,_=>False) (hhi:match hi,uh with|none,none=>True|some v,some u=>rel G v u|_,_=>False) (hmx:match mx,um with|none,none=>True|some v,some u=>rel G v u|_,_=>False) :
  ResOK c.P s G w ((do pure (Next.value (←Instr.sliceAt t u ul uh um)):Sem Next).run c.P w) (hslice c t x lo hi mx):=by
 have fin:∀ {y:HV} {v:Value} {du:TypeDesc},(∀ w,(underlying t).run c.P w = .ok du w)→(du = .string∨∃ e',du = .slice e')→(Instr.slice t u ul uh um).run c.P w = .ok v w→rel G y v→Gives s G w ((do pure (Next.value (←Instr.sliceAt t u ul uh um)):Sem Next).run c.P w) y s:=fun {y v du} hu hdu h1 h2=>
  ⟨_,w,G,.inl (by
   have hat:(Instr.sliceAt t u ul uh um).run c.P w=(Instr.slice t u ul uh um).run c.P w:=by
    unfold Instr.sliceAt
    rw [Sem.run_bind,hu w,Result.andThen_ok]
    rcases hdu with rfl|⟨e',rfl⟩<;>rfl
   rw [Sem.run_bind,hat,h1];rfl),h2,.refl hs⟩
 unfold hslice
 split
 ·rename_i size bytes ag z hd
  have hu:=fun w=>(c.ty_ok t _ hd).string (w:=w) rfl
  split
  ·rename_i b
   have:=rel_v_eq hx
   subst this
   cases um with
   |some _=>exact hmx.elim
   |none=>
    refine hbound_ok hhi fun p2 h eh=>hbound_ok hlo fun p1 l el=>?_
    rintro ⟨h1,h2,h3,h4⟩
    refine fin (y:=.v (.string (b.extract l h))) hu (.inl rfl) ?_ (rel_v G)
    have hb:(Instr.sliceBounds false b.size b.size ul uh none).run c.P w = .ok (l,h,b.size) w:=by
     have el:=el h1
     have eh:=eh h2
     cases ul<;>cases uh<;>simp only [BoundRun] at el eh<;>(try subst el)<;>(try subst eh)<;>simp [Instr.sliceBounds, *]
    simp [Instr.slice,hu,hb]
  ·trivial
 ·rename_i size bytes ag z e hd
  have hu:=fun w=>(c.ty_ok t _ hd).slice (w:=w) rfl
  split
  ·trivial
  ·rename_i d he
   have hte:=c.ty_ok e d he
   split
   ·rename_i tk sz xs
    split
    ·trivial
    ·rename_i hz
     have hz:=Nat.eq_of_beq_eq_true hz
     subst hz
     split
     ·cases um with
      |some _=>exact hmx.elim
      |none=>
       refine hbound_ok hlo fun p1 l el=>?_
       split
       ·cases uh with
        |some _=>exact hhi.elim
        |none=>
         rintro ⟨h1,h2⟩
         obtain ⟨v,v1,v2⟩:=list_cut (w:=w) (ul:=ul) (uh:=none) (um:=none) hu hte hx h2 (Nat.le_refl _) true false (fun _=>rfl) (fun cp hcp=>by
          refine ⟨cp,?_,hcp,by simp,fun _=>rfl⟩
          have el:=el h1
          cases ul<;>simp only [BoundRun] at el<;>simp [Instr.sliceBounds,el,h2])
         rw [List.take_length] at v2
         exact fin hu (.inr ⟨e,rfl⟩) v1 v2
       ·rename_i hi'
        cases uh with
        |none=>exact hhi.elim
        |some uh=>
         refine hbound_ok (u:=some uh) hhi fun p2 h eh=>?_
         rintro ⟨h1,h2,h3,h4⟩
         obtain ⟨v,v1,v2⟩:=list_cut (w:=w) (ul:=ul) (uh:=some uh) (um:=none) hu hte hx h3 h4 false false (fun h=>by cases h) (fun cp hcp=>by
          refine ⟨cp,?_,by omega,by simp,fun _=>rfl⟩
          have hq:h≤cp:=by omega
          have el:=el h1
          have eh:=eh h2
          simp only [BoundRun] at eh
          cases ul<;>simp only [BoundRun] at el<;>simp [Instr.sliceBounds,el,eh,h3,hq])
         exact fin hu (.inr ⟨e,rfl⟩) v1 v2
     ·rename_i mx'
      split
      ·trivial
      ·rename_i hi'
       cases um with
       |none=>exact hmx.elim
       |some um=>
        cases uh with
        |none=>exact hhi.elim
        |some uh=>
         refine hbound_ok (u:=some um) hmx fun p3 m em=>hbound_ok (u:=some uh) hhi fun p2 h eh=>hbound_ok hlo fun p1 l el=>?_
         rintro ⟨h1,h2,h3,h4,h5,h6⟩
         obtain ⟨v,v1,v2⟩:=list_cut (w:=w) (ul:=ul) (uh:=some uh) (um:=some um) hu hte hx h4 h6 false true (fun h=>by cases h) (fun cp hcp=>by
          refine ⟨m,?_,by omega,fun _=>h5,by simp⟩
          have hq:m≤cp:=by omega
          have hq2:h≤m:=by omega
          have el:=el h1
          have eh:=eh h2
          have em:=em h3
          simp only [BoundRun] at eh em
          cases ul<;>simp only [BoundRun] at el<;>simp [Instr.sliceBounds,el,eh,em,h4,hq,hq2])
         exact fin hu (.inr ⟨e,rfl⟩) v1 v2
   ·rename_i r off len cap sz
    split
    ·split
     ·trivial
     ·rename_i hz
      have hz:=Nat.eq_of_beq_eq_true hz
      subst hz
      obtain ⟨b,ho,rfl⟩:=rel_arr hx
      cases um with
      |some _=>exact hmx.elim
      |none=>
       refine hbound_ok hhi fun p2 h eh=>hbound_ok hlo fun p1 l el=>?_
       rintro ⟨h1,h2,h3,h4,h5,h6⟩
       refine fin (y:=.arr r (off+l * d.size) (h - l) (cap - l) d.size) hu (.inr ⟨e,rfl⟩) (v:=.slice (some ⟨b,off+l * d.size,none⟩) (h - l) (cap - l)) ?_ (arr_rel ho)
       have hb:(Instr.sliceBounds true len cap ul uh none).run c.P w = .ok (l,h,cap) w:=by
        have hq:h≤cap:=by omega
        have el:=el h1
        have eh:=eh h2
        cases ul<;>cases uh<;>simp only [BoundRun] at el eh<;>(try subst el)<;>(try subst eh)<;>simp [Instr.sliceBounds, *]
       have hne:¬ cap=l:=by omega
       simp [Instr.slice,hu,hb,hte.sizeOf,hne,add_plain]
    ·trivial
   ·trivial
 ·trivial
end
end Go.Proofs.Hk

namespace Go.Proofs.Hk
noncomputable section
open Go
theorem run_makeSlice {P:Program} {w:World} {t e:TypeId} {d:TyD} (ht:(underlying t).run P w = .ok (.slice e) w) (hd:TyOK P e d) {k k':IntKind} {n c:Int} (h0:0≤n) (h1:n≤c) (h2:c < 9223372036854775808) (h3:c.toNat * d.bytes≤70368744177664) (hs:0 < d.size) (hb:0 < d.bytes) :
  (Instr.makeSlice t (.int k n) (.int k' c)).run P w = .ok (.slice (some ⟨w.heap.size,0,none⟩) n.toNat c.toNat) (World.pushed w (.cells ((Array.range (c.toNat * d.size)).map (fun x=>d.zero.cells[x % d.zero.cells.size]!)) e)):=by
 obtain ⟨i,hi,hi1,hi2,hi3⟩:=hd.info (w:=w)
 have w1:IntKind.i64.wrap n=n:=IntWalk.i64_in _ (by omega)
 have w2:IntKind.i64.wrap c=c:=IntWalk.i64_in _ (by omega)
 have hc:((c.toNat:Nat):Int)=c:=by omega
 have big:∀ m:Int,m < 0∨(d.bytes:Int) * m > 2 ^ 48→¬ (0≤m∧m≤c):=fun m hm hq=>by
  rcases hm with hm|hm
  ·omega
  ·have a1:(d.bytes:Int) * m≤d.bytes * c:=Int.mul_le_mul_of_nonneg_left hq.2 (by omega)
   have a2:(d.bytes:Int) * c=((c.toNat * d.bytes:Nat):Int):=by rw [Int.natCast_mul,hc,Int.mul_comm]
   omega
 have b1:(decide (c < 0)||decide ((d.bytes:Int) * c > 2 ^ 48))=false:=by
  cases hx:(decide (c < 0)||decide ((d.bytes:Int) * c > 2 ^ 48)) with
  |false=>rfl
  |true=>exact absurd ⟨by omega,by omega⟩ (big c (by simpa using hx))
 have hz:=hd.zero (w:=w)
 have hsz:=hd.sizeOf (w:=w)
 have ai:(asInt (.int k n)).run P w = .ok n w:=rfl
 have ai':(asInt (.int k' c)).run P w = .ok c w:=rfl
 simp only [Instr.makeSlice,Sem.run_bind,ht,Result.andThen_ok,ai,ai',hi,w1,w2,hi2,b1]
 rw [if_neg (by simp;omega)]
 have r1:¬ c.toNat * d.bytes > roomBytes:=by unfold roomBytes;omega
 simp only [askRoom,if_neg r1,Sem.run_bind,Sem.run_pure,Result.andThen_ok,hsz]
 by_cases hn:c.toNat * d.size=0
 ·rw [if_pos hn]
  have e0:Array.range 0 = #[]:=Array.eq_empty_of_size_eq_zero (by simp)
  simp [newRow,Go.newObj,Sem.run,World.pushed,hn,e0]
 ·rw [if_neg hn]
  simp only [Sem.run_bind,hz,Sem.run_pure,Result.andThen_ok]
  simp [newRow,Go.newObj,Sem.run,World.pushed]
theorem makeSlice_ok (c:Cx) {s:HS} {G:Ghost} {w:World} (hs:SRel G s w) (t:TypeId) (own:Bool) {x y:HV} {u v:Value} (hx:rel G x u) (hy:rel G y v) :
  ResOK c.P s G w ((do pure (Next.value (←Instr.makeSlice t u v)):Sem Next).run c.P w) (hmakeSlice c s t own x y):=by
 unfold hmakeSlice
 split
 ·trivial
 ·rename_i e he
  have ht:(underlying t).run c.P w = .ok (.slice e) w:=by
   unfold sliceElemT at he
   split at he
   ·rename_i e' hd
    cases he
    exact (c.ty_ok t _ hd).slice rfl
   ·cases he
  split
  ·rename_i d z hd hz
   have hdo:=c.ty_ok e d hd
   obtain ⟨d',hd',hzr⟩:=zero_ok0 c (G:=G) hz
   rw [hd] at hd'
   cases hd'
   split
   ·trivial
   ·rename_i hchk
    simp only [Bool.and_eq_true,Nat.blt_eq] at hchk
    obtain ⟨⟨hsz,hb⟩,hk⟩:=hchk
    have hk:=kdOk_ne hk
    split
    ·rename_i k n k' m
     have e1:=rel_v_eq hx
     have e2:=rel_v_eq hy
     subst e1 e2
     split
     ·rintro K ⟨⟨h0,h1,h2⟩,hK⟩
      subst h0
      have run:=run_makeSlice (k:=k) (k':=k') ht hdo (n:=0) (c:=m) (Int.le_refl _) h1 (by
       have:m.toNat * 1≤m.toNat * d.bytes:=Nat.mul_le_mul_left _ hb
       omega) h2 hsz hb
      have hzs:=hdo.zsize
      refine ⟨_,_,hK G.lim (fun hm=>by have:=hs.lt_key hm;omega),_,_,G.grown G.lim 0 w.heap.size 0 (m.toNat * d.size) (G.lim+1) _,.inl (by rw [Sem.run_bind,run];rfl),?_,post_grown hs rfl rfl rfl rfl (.inl ⟨Nat.le_refl _,rfl,rfl⟩) (by simp)⟩
      refine list_rel (by simp) (by simp only [relAts]) ?_
      refine ⟨⟨0,w.heap.size,0,_⟩,by simp only [Ghost.grown,if_true];rfl,by simp,fun _=>.inl ⟨rfl,by simp,by simp⟩⟩
     ·rintro K ⟨⟨h0,h1,h2⟩,hK⟩
      have run:=run_makeSlice (k:=k) (k':=k') ht hdo (n:=n) (c:=m) h0 h1 (by
       have:m.toNat * 1≤m.toNat * d.bytes:=Nat.mul_le_mul_left _ hb
       omega) h2 hsz hb
      have hzs:=hdo.zsize
      refine ⟨_,_,hK G.lim (fun hm=>by have:=hs.lt_key hm;omega),_,_,G.newObj w.heap.size,.inl (by rw [Sem.run_bind,run];rfl),?_,post_newObj hs _ _ ⟨w.heap.size,_,by simp [Ghost.newObj],by simp [Ghost.newObj],pushed_new w _,?_,fun o=>hs.K_new (Nat.le_refl _) o⟩⟩
      ·exact rel_leaf (by simp only [relC];exact ⟨w.heap.size,by simp [Ghost.newObj],rfl⟩) rfl
      ·have:=rep_rel hzr hk m.toNat (by rw [hzs];exact hsz)
       rw [hzs] at this
       simp only [hzs]
       exact relCs.mono (Ghost.newObj_le hs _) _ _ this
    ·trivial
  ·trivial
end
end Go.Proofs.Hk

namespace Go.Proofs.Hk
noncomputable section
open Go
def valOf:HV→Value
 |.v x=>x
 |_=>undef
theorem isU8_eq {x:HV} (h:isU8 x=true):∃ n,x = .v (.int .u8 n):=by
 cases x with
 |v y=>
  cases y with
  |int k n=>cases k<;>first|exact ⟨n,rfl⟩|cases h
  |_=>cases h
 |_=>cases h
theorem relAts_u8 {G:Ghost} {rd:Nat→Option Value} : ∀ {l:List HV} {o:Nat},relAts G l rd o 1→l.all isU8=true→∀ j,j < l.length→rd (o+j)=(l.map valOf)[j]?
 |[],o,_,_,j,hj=>by simp at hj
 |x::xs,o,h,hu,j,hj=>by
  simp only [relAts] at h
  obtain ⟨⟨cs,hc,_,hr,hx⟩,h2⟩:=h
  simp only [List.all_cons,Bool.and_eq_true] at hu
  obtain ⟨n,rfl⟩:=isU8_eq hu.1
  cases j with
  |zero=>
   simp only [relC] at hx
   have:=hr 0 (by omega)
   rw [hx.1] at this
   simpa [valOf] using this
  |succ j=>
   have:=relAts_u8 h2 hu.2 j (by simpa using hj)
   rw [show o+1+j=o+(j+1) from by omega] at this
   simpa using this
theorem relCs_u8 {G:Ghost} : ∀ {l:List HV} {us:List Value},relCs G l us→l.all isU8=true→us=l.map valOf
 |[],us,h,_=>by simpa [relCs] using h
 |x::xs,us,h,hu=>by
  simp only [relCs] at h
  obtain ⟨u,us',rfl,h1,h2⟩:=h
  simp only [List.all_cons,Bool.and_eq_true] at hu
  obtain ⟨n,rfl⟩:=isU8_eq hu.1
  have:=leaf_v h1.2
  subst this
  rw [relCs_u8 h2 hu.2]
  rfl
theorem run_pushes {P:Program} {w:World} (f:Value→ByteArray→Sem (ForInStep ByteArray)) (hf:∀ n s,f (.int .u8 n) s=pure (ForInStep.yield (s.push (UInt8.ofNat n.toNat)))):∀ (l:List HV) (s:ByteArray),l.all isU8=true→
  (forIn (l.map valOf) s f:Sem ByteArray).run P w = .ok ⟨s.data ++ (l.map byteOf).toArray⟩ w
 |[],s,_=>by simp [Sem.run_pure]
 |x::xs,s,hu=>by
  simp only [List.all_cons,Bool.and_eq_true] at hu
  obtain ⟨n,rfl⟩:=isU8_eq hu.1
  simp only [List.map_cons,valOf,List.forIn_cons,hf,pure_bind]
  rw [run_pushes f hf xs _ hu.2]
  simp [byteOf,ByteArray.push]
theorem run_bytesStr {P:Program} {w:World} {b o c:Nat} {l:List HV} (hu:l.all isU8=true) (h:∀ j,j < l.length→w.cell? ⟨b,o+j,none⟩=(l.map valOf)[j]?) :
  (Conv.bytesToString (.slice (some ⟨b,o,none⟩) l.length c)).run P w = .ok (.string ⟨(l.map byteOf).toArray⟩) w:=by
 have hl:=run_cells (P:=P) (w:=w) (b:=b) (o:=o) (xs:=l.map valOf) (by simpa using h)
 rw [List.length_map] at hl
 simp only [Conv.bytesToString,Sem.run_bind,hl,Result.andThen_ok]
 simp only [List.forIn_toArray]
 rw [run_pushes _ (fun _ _=>rfl) l _ hu]
 simp [Result.andThen_ok,Sem.run_pure]
theorem isBytes_ok {c:Cx} {t:TypeId} {w:World} (h:isBytes c t=true):∃ e,(underlying t).run c.P w = .ok (.slice e) w∧(underlying e).run c.P w = .ok (.int .u8) w:=by
 unfold isBytes at h
 split at h
 ·cases h
 ·rename_i e he
  split at h
  ·rename_i hd
   refine ⟨e,?_,(c.ty_ok e _ hd).int rfl⟩
   unfold sliceElemT at he
   split at he
   ·rename_i e' hd'
    cases he
    exact (c.ty_ok t _ hd').slice rfl
   ·cases he
  ·cases h
theorem bytesStr_ok (c:Cx) {s:HS} {G:Ghost} {w:World} (hs:SRel G s w) {src dst:TypeId} (hsrc:isBytes c src=true) (hdst:(underlying dst).run c.P w = .ok .string w) {x:HV} {u:Value} (hx:rel G x u) :
  ResOK c.P s G w ((do pure (Next.value (←convert src dst u)):Sem Next).run c.P w) (hbytesStr x):=by
 obtain ⟨e,h1,h2⟩:=isBytes_ok (w:=w) hsrc
 have conv:∀ u,(∃ a n m,u = .slice a n m)→∀ v,(Conv.bytesToString u).run c.P w = .ok v w→(do pure (Next.value (←convert src dst u)):Sem Next).run c.P w = .ok (.value v) w:=by
  rintro u ⟨a,n,m,rfl⟩ v hv
  have:(convert src dst (.slice a n m)).run c.P w = .ok v w:=by
   cases a<;>simp only [convert,Sem.run_bind,h1,hdst,h2,Result.andThen_ok,hv]
  simp only [Sem.run_bind,this,Result.andThen_ok,Sem.run_pure]
 unfold hbytesStr
 split
 ·have:=rel_v_eq hx
  subst this
  exact ⟨_,w,G,.inl (conv _ ⟨_,_,_,rfl⟩ (.string .empty) (by simp [Conv.bytesToString,Sem.run_pure])),rel_v G,.refl hs⟩
 ·rename_i tk sz l
  rintro ⟨rfl,hu⟩
  rcases (rel_list hx).imp id or_comm.1 with ⟨rfl,rfl,_⟩|⟨rfl,_,a,rfl⟩|⟨b,o,cp,rfl,hcp,ha,_⟩
  ·exact ⟨_,w,G,.inl (conv _ ⟨_,_,_,rfl⟩ (.string .empty) (by simp [Conv.bytesToString,Sem.run_pure])),rel_v G,.refl hs⟩
  ·have hl:(loadCells a 0).run c.P w = .ok #[] w:=by
    have:=run_firstCells_some (P:=c.P) w 1 0 a 0 0 [] (by simp) (fun j u e=>by simp at e)
    simpa [Builtin.firstCells] using this
   exact ⟨_,w,G,.inl (conv _ ⟨_,_,_,rfl⟩ (.string .empty) (by simp only [Conv.bytesToString,Sem.run_bind,hl,Result.andThen_ok];simp [Sem.run_pure])),rel_v G,.refl hs⟩
  ·have hr:=relAts_u8 ha hu
   refine ⟨_,w,G,.inl (conv _ ⟨_,_,_,rfl⟩ _ (run_bytesStr hu fun j hj=>?_)),rel_v G,.refl hs⟩
   have:=hr j hj
   rw [List.getElem?_eq_getElem (by simpa using hj)] at this ⊢
   exact hs.kw _ _ _ this
 ·rename_i r off len cap sz
  intro rx hg
  obtain ⟨b,hb,rfl⟩:=rel_arr hx
  cases rx with
  |cells cs t=>
   rintro ⟨hle,hu⟩
   have hh:=hs.holds r _ (hget_mem hg)
   obtain ⟨b',vs,e1,_,hhp,hc,_⟩:=hh
   rw [hb] at e1
   cases e1
   have hlen:((cs.drop off).take len).length=len:=by simp;omega
   have:=relCs_length hc
   have hus:(vs.toList.drop off).take len=((cs.drop off).take len).map valOf:=relCs_u8 (relCs_take len (relCs_drop off hc)) hu
   have run:=run_bytesStr (P:=c.P) (w:=w) (b:=b) (o:=off) (c:=cap) hu fun j hj=>by
    rw [←hus]
    rw [hlen] at hj
    rw [List.getElem?_take,if_pos hj,List.getElem?_drop]
    simp only [World.cell?,hhp,Option.isSome_none,Bool.false_eq_true,if_false]
    simp
   rw [hlen] at run
   exact ⟨_,w,G,.inl (conv _ ⟨_,_,_,rfl⟩ _ run),rel_v G,.refl hs⟩
  |map _=>trivial
  |tok _=>trivial
  |void=>trivial
  |loop L=>trivial
  |row cs' sz' t''=>trivial
 ·trivial
theorem isBytes_und {c:Cx} {t:TypeId} (h:isBytes c t=true):∃ e,c.P.underlying t=some (.slice e)∧c.P.underlying e=some (.int .u8):=by
 unfold isBytes at h
 split at h
 ·cases h
 ·rename_i e he
  unfold sliceElemT at he
  split at he
  ·rename_i h1
   cases he
   split at h
   ·rename_i h2
    obtain ⟨i1,u1,a1,a2,_,_,_,_,a3,_⟩:=c.ty_ok _ _ h1
    obtain ⟨i2,u2,b1,b2,_,_,_,_,b3,_⟩:=c.ty_ok _ _ h2
    cases u1<;>simp [shOK] at a3
    cases u2<;>simp [shOK] at b3
    subst a3 b3
    exact ⟨_,a2,b2⟩
   ·cases h
  ·cases he
/-- A new row that never changes, whatever its room. -/
theorem post_row {G:Ghost} {s:HS} {w w':World} (h:SRel G s w) (vs:Array Value) (h1:∀ b,b < w.heap.size→w'.heap[b]? = w.heap[b]?) (h2:w'.heap.size=w.heap.size+1)
  (h3:∀ o v,vs[o]? = some v→w'.cell? ⟨w.heap.size,o,none⟩=some v) (ho:w'.os=w.os) (ht:w'.tape=w.tape) (hp:w'.output=w.output):Post s G w s (G.commit w.heap.size vs) w':=by
 have le:=Ghost.commit_le h vs
 have hb:∀ b,b < w.heap.size→w'.heap[b]? = w.heap[b]?∧(G.commit w.heap.size vs).role b=G.role b∧∀ o,(G.commit w.heap.size vs).K b o=G.K b o:=fun b hb=>
  ⟨h1 b hb,rfl,fun o=>by simp only [Ghost.commit];rw [if_neg (by omega)]⟩
 refine ⟨⟨fun b off v e=>?_,h.keys,fun r y hy=>(h.holds r y hy).agree h le hb (fun _ _ e=>e) (fun _ a b c d=>⟨a,b,c,d⟩),h.fresh,fun b r e=>?_⟩,⟨le,by omega,fun b hlt _=>hb b hlt,fun r tp e _=>e,Nat.le_refl _,ho,ht,hp,fun _ _ _ b c d=>⟨b,c,d⟩⟩,fun r hr=>.inl hr⟩
 ·simp only [Ghost.commit] at e
  split at e
  ·rename_i hb;subst hb
   exact h3 off v e
  ·have hlt:=h.K_lt e
   have:=h.kw b off v e
   simp only [World.cell?,h1 b hlt] at this ⊢
   exact this
 ·have:=h.role b r e
  exact ⟨by omega,this.2⟩
theorem strBytes_ok (c:Cx) {s:HS} {G:Ghost} {w:World} (hs:SRel G s w) {src dst:TypeId} (b:ByteArray) (hdst:isBytes c dst=true) {u:TypeDesc} (hsrc:c.P.underlying src=some u) :
  Gives s G w ((do pure (Next.value (←convert src dst (.string b))):Sem Next).run c.P w) (.list .no 1 (bytesL b)) s:=by
 obtain ⟨e,h1,h2⟩:=isBytes_und hdst
 have run:=Lib.run_convert_string_bytes (P:=c.P) w src dst e b hsrc h1 h2
 have hl:(bytesL b).length=b.size:=by simp [bytesL]
 refine ⟨_,Lib.bytesWorld w e b,G.commit w.heap.size (b.data.map fun x=>.int .u8 x.toNat),.inl (by rw [Sem.run_bind,run];rfl),rel_leaf ?_ rfl,post_row hs _ (fun j hj=>Lib.bytesWorld_at_old w e b j hj) (Lib.bytesWorld_size w e b) (fun o v ho=>?_) ?_ ?_ ?_⟩
 ·simp only [relC]
  refine .inr (.inl ⟨w.heap.size,0,_,by rw [hl],?_,relAts_bytes _ _ _ _ fun j hj=>?_,trivial⟩)
  ·rw [hl]
   exact capOf_ge w b.size 0 e
  ·simp only [Ghost.commit,if_true,Nat.zero_add]
   simp
 ·have hj:o < b.size:=by
   have:=(Array.getElem?_eq_some_iff.1 ho).1
   simpa using this
  rw [Lib.bytesWorld_cell w e b o hj]
  simp only [Array.getElem?_map] at ho
  rw [Array.getElem?_eq_getElem (by simpa using hj)] at ho
  simp only [Option.map_some,Option.some.injEq] at ho
  rw [←ho]
  simp [List.getD_eq_getElem?_getD]
  rw [Array.getElem?_eq_getElem (by simpa using hj)]
  rfl
 ·rfl
 ·rfl
 ·rfl
end
end Go.Proofs.Hk

namespace Go.Proofs.Hk
noncomputable section
open Go
theorem rel_tup_inv {G:Ghost} {l:List HV} {u:Value} (h:rel G (.tup l) u):∃ us:Array Value,u = .tuple us∧relVs G l us.toList:=by
 obtain ⟨h1,h2⟩:=h
 cases u<;>first|cases h1|skip
 simp only [relC,Value.cells] at h2
 obtain ⟨us,e,h⟩:=h2
 simp only [List.cons.injEq,Value.tuple.injEq,and_true] at e
 subst e
 exact ⟨_,rfl,h⟩
theorem tup_rel {G:Ghost} {l:List HV} {us:List Value} (h:relVs G l us):rel G (.tup l) (.tuple us.toArray):=⟨rfl,by simp only [relC,Value.cells];exact ⟨us.toArray,rfl,by simpa using h⟩⟩
theorem relVs_get {G:Ghost} : ∀ {l:List HV} {us:List Value},relVs G l us→∀ (i:Nat) (x:HV),l[i]? = some x→∃ u,us[i]? = some u∧rel G x u
 |[],us,h,i,x,e=>by simp at e
 |y::ys,us,h,i,x,e=>by
  simp only [relVs_cons] at h
  obtain ⟨u,us',rfl,h1,h2⟩:=h
  cases i with
  |zero=>simp only [List.getElem?_cons_zero,Option.some.injEq] at e;subst e;exact ⟨u,by simp,h1⟩
  |succ i=>simpa using relVs_get h2 i x (by simpa using e)
theorem relVs_append {G:Ghost} : ∀ {l m:List HV} {us vs:List Value},relVs G l us→relVs G m vs→relVs G (l ++ m) (us ++ vs)
 |[],m,us,vs,h,k=>by simp only [relVs] at h;subst h;exact k
 |x::xs,m,us,vs,h,k=>by
  simp only [relVs_cons] at h
  obtain ⟨u,us',rfl,h1,h2⟩:=h
  simp only [List.cons_append,relVs_cons]
  exact ⟨u,us' ++ vs,rfl,h1,relVs_append h2 k⟩
theorem rel_fn {G:Ghost} {f:Fn} {fi ca:List HV} {u:Value} (h:rel G (.fn f fi ca) u):∃ a b:Array Value,u = .func f a b∧relVs G fi a.toList∧relVs G ca b.toList:=by
 obtain ⟨h1,_⟩:=leaf_of h rfl
 simp only [relC] at h1
 obtain ⟨a,b,e,h⟩:=h1
 exact ⟨a,b,by simpa using e,h⟩
theorem fn_rel {G:Ghost} {f:Fn} {fi ca:List HV} {a b:List Value} (h1:relVs G fi a) (h2:relVs G ca b):rel G (.fn f fi ca) (.func f a.toArray b.toArray):=
 rel_leaf (by simp only [relC];exact ⟨_,_,rfl,by simpa using h1,by simpa using h2⟩) rfl
theorem iface_rel {G:Ghost} {t:TypeId} {x:HV} {u:Value} (h:rel G x u):rel G (.iface t x) (.iface t u):=
 rel_leaf (by simp only [relC];exact ⟨u,rfl,h.1,h.2⟩) rfl
theorem rel_iface {G:Ghost} {t:TypeId} {x:HV} {u:Value} (h:rel G (.iface t x) u):∃ v,u = .iface t v∧rel G x v:=by
 obtain ⟨h1,_⟩:=leaf_of h rfl
 simp only [relC] at h1
 obtain ⟨v,e,h⟩:=h1
 exact ⟨v,by simpa using e,h⟩
theorem rel_cptr {G:Ghost} {x:HV} {u:Value} (h:rel G (.cptr x) u):∃ b o,u = .pointer (some ⟨b,o,none⟩):=by
 obtain ⟨h1,_⟩:=leaf_of h rfl
 simp only [relC] at h1
 obtain ⟨b,o,xs,e,_⟩:=h1
 exact ⟨b,o,by simpa using e⟩
theorem convert_ok (c:Cx) {s:HS} {G:Ghost} {w:World} (hs:SRel G s w) (src dst:TypeId) {x:HV} {u:Value} (hx:rel G x u) :
  ResOK c.P s G w ((do pure (Next.value (←convert src dst u)):Sem Next).run c.P w) (hconvert c src dst x):=by
 unfold hconvert
 split
 ·rename_i k k' n hd
  have hu:=(c.ty_ok dst _ hd).int (w:=w) rfl
  split
  ·rename_i k2 hs2
   have hv:=(c.ty_ok src _ hs2).int (w:=w) rfl
   have:=rel_v_eq hx
   subst this
   exact ⟨_,w,G,.inl (by simp [convert,hu,hv,Conv.intToInt]),rel_v G,.refl hs⟩
  ·trivial
 ·rename_i b hd
  have hu:=(c.ty_ok dst _ hd).string (w:=w) rfl
  split
  ·rename_i hs2
   have hv:=(c.ty_ok src _ hs2).string (w:=w) rfl
   have:=rel_v_eq hx
   subst this
   exact ⟨_,w,G,.inl (by simp [convert,hu,hv]),rel_v G,.refl hs⟩
  ·trivial
 ·rename_i b hd
  split
  ·rename_i hb
   split
   ·rename_i hs2
    obtain ⟨i,u,_,a2,_⟩:=c.ty_ok src _ hs2
    have:=rel_v_eq hx
    subst this
    exact strBytes_ok c hs b hb a2
   ·trivial
  ·trivial
 ·rename_i hd _
  have hu:=(c.ty_ok dst _ hd).string (w:=w) rfl
  split
  ·rename_i hb
   exact bytesStr_ok c hs hb hu hx
  ·trivial
 ·trivial
theorem call_ok (c:Cx) {s:HS} {G:Ghost} {w:World} {f:HV} {xs:List HV} {u:Value} {vs:List Value} (hf:rel G f u) (hx:relVs G xs vs) :
  ResOK c.P s G w ((do let d ←Deferred.ofValue u vs.toArray;invoke d.target d.args:Sem Next).run c.P w) (hcall c f xs):=by
 unfold hcall
 split
 ·rename_i k fi ca
  obtain ⟨a,b,rfl,h1,h2⟩:=rel_fn hf
  intro hk
  obtain ⟨d,hd,hb,hn⟩:=c.fn_ok k hk
  refine ⟨a ++ vs.toArray ++ b,?_,by simpa using relVs_append (relVs_append h1 hx) h2⟩
  have hn':¬ d.name = "runtime.NumGoroutine":=by simpa using hn
  have hb':¬ d.body=none:=by intro e;rw [e] at hb;cases hb
  simp [Deferred.ofValue,invoke,callFunc,program,Sem.run,hd,hn',hb']
 ·trivial
theorem invoke_ok (c:Cx) {s:HS} {G:Ghost} {w:World} {m:String} {v:HV} {xs:List HV} {u:Value} {vs:List Value} (hv:rel G v u) (hx:relVs G xs vs) :
  ResOK c.P s G w ((invoke (.fn (.method m) #[]) (#[u] ++ vs.toArray):Sem Next).run c.P w) (hinvoke c m xs v):=by
 unfold hinvoke
 split
 ·rename_i t x
  split
  ·rename_i d1 d2 d3 d4 fs eq hd
   split
   ·rename_i f hm
    obtain ⟨i,ud,hi,hud,_,_,_,_,hsh,_⟩:=c.ty_ok _ _ hd
    obtain ⟨fs',rfl⟩:∃ fs',ud = .struct fs':=by cases ud<;>simp [shOK] at hsh ⊢
    intro hk
    obtain ⟨d,hdf,hb,hn⟩:=c.fn_ok f hk
    obtain ⟨u',rfl,h1,h2⟩:∃ u',u = .iface t u'∧x.kd=vkd u'∧relC G x u'.cells.toList:=by
     obtain ⟨h0,h1⟩:=hv
     simp only [relC] at h1
     obtain ⟨u',e,a1,a2⟩:=h1
     refine ⟨u',?_,a1,a2⟩
     cases u<;>simp [Value.cells] at e<;>first|(obtain ⟨rfl,rfl⟩:=e;rfl)|(exfalso;simp_all [HV.kd,vkd])
    unfold methOf at hm
    rw [hi] at hm
    simp only at hm
    split at hm
    ·rename_i r hr
     split at hm
     ·rename_i hp hf
      cases hm
      have hn':¬ d.name = "runtime.NumGoroutine":=by simpa using hn
      have hb':¬ d.body=none:=by intro e;rw [e] at hb;cases hb
      have hti:(typeInfo t).run c.P w = .ok i w:=by simp [typeInfo,program,Sem.run,hi]
      refine ⟨#[u'] ++ vs.toArray,?_,?_⟩
      ·have hrec:∀ o,(receiverAt t (.val u') false o).run c.P w = .ok u' w:=fun o=>by
        unfold receiverAt
        rw [Sem.run_bind,run_underlying hud,Result.andThen_ok]
        rfl
       have hfol:(follow r.path.toList t (.val u')).run c.P w = .ok (t,.val u') w:=by rw [hp];rfl
       have hmeth:∀ n,(method (n+1) t u' m).run c.P w = .ok (f,u') w:=fun n=>by
        unfold method
        rw [Sem.run_bind,hti,Result.andThen_ok]
        simp only [hr]
        rw [Sem.run_bind,hfol,Result.andThen_ok]
        simp only [hf]
        rw [Sem.run_bind,hrec,Result.andThen_ok]
        rfl
       simp only [invoke,callMethod]
       simp [Sem.run_bind,program,Sem.run,Result.andThen,hmeth,Made.depth,callFunc,hdf,hn',hb']
      ·simp only [Array.toList_append,List.cons_append,List.nil_append]
       rw [relVs_cons]
       exact ⟨u',vs,rfl,⟨h1,h2⟩,hx⟩
     ·cases hm
    ·cases hm
   ·trivial
  ·trivial
 ·trivial
theorem zero_ok (c:Cx) {G:Ghost} {t:TypeId} {z:HV} (h:hzero c t=some z):∃ d,c.ty t=some d∧rel G z d.zero:=by
 unfold hzero at h
 split at h
 ·cases h
 ·rename_i d hd
  refine ⟨d,hd,?_⟩
  split at h
  ·rename_i cs hz
   split at h
   ·rename_i hone
    cases h
    rw [hz]
    simpa using rel_agg (relCs_map_v G cs.toList fun u hu=>by
     have:=(List.all_eq_true.1 hone) u hu
     cases u<;>first|rfl|cases this)
   ·cases h
  ·cases h
  ·rename_i v h1 h2
   cases h
   exact rel_v G (h:=by
    cases hv:d.zero<;>first|rfl|exact absurd hv (h1 _)|exact absurd hv (h2 _))
end
end Go.Proofs.Hk

namespace Go.Proofs.Hk
noncomputable section
open Go Go.MapKept
theorem strEq_eq {a b:ByteArray} : strEq a b=true↔a=b:=by
 unfold strEq
 rw [beq_iff_eq,ByteArray.toList_eq,ByteArray.toList_eq]
 constructor
 ·intro h
  cases a;cases b
  simp only at h
  congr 1
  exact Array.toList_inj.1 h
 ·intro h;rw [h]
/-- Which keys a type has. -/
theorem keySh_ok {P:Program} {t:TypeId} {d:TyD} (h:TyOK P t d) {k:Value} (hk:keyShB d.sh k=true):∃ u,P.underlying t=some u∧IsKey u k:=by
 obtain ⟨i,u,h1,h2,_,_,_,_,h3,_⟩:=h
 refine ⟨u,h2,?_⟩
 cases k<;>simp only [keyShB] at hk<;>try (cases hk;done)
 all_goals
  generalize d.sh=sh at hk h3
  cases sh<;>simp only at hk<;>try (cases hk;done)
 ·have:=kindEq_eq hk
  subst this
  cases u<;>simp only [shOK] at h3
  subst h3
  simp [IsKey]
 ·cases u<;>simp only [shOK] at h3
  simp [IsKey]
theorem keyEq_eq {sh:Sh} {a b:Value} (ha:keyShB sh a=true) (hb:keyShB sh b=true):keyEq a b=true↔a=b:=by
 cases a<;>simp only [keyShB] at ha<;>try (cases ha;done)
 all_goals cases b<;>simp only [keyShB] at hb<;>try (cases hb;done)
 all_goals cases sh<;>simp only at ha hb<;>try (first|(cases ha;done)|(cases hb;done))
 ·have h1:=kindEq_eq ha
  have h2:=kindEq_eq hb
  subst h1
  subst h2
  simp [keyEq]
 ·simp [keyEq,strEq_eq]
theorem hkey_ok {c:Cx} {t:TypeId} {x:HV} {k:Value} (h:hkey c t x=some k):∃ d,c.ty t=some d∧keyShB d.sh k=true∧x = .v k:=by
 unfold hkey at h
 split at h
 ·rename_i e
  cases h
  exact ⟨_,e,rfl,rfl⟩
 ·rename_i e
  split at h
  ·rename_i hk
   cases h
   exact ⟨_,e,hk,rfl⟩
  ·cases h
 ·cases h
theorem keysShB_mem {sh:Sh} : ∀ {es:List (Value × HV)},keysShB sh es=true→∀ e∈es,keyShB sh e.1=true
 |[],_,e,h=>by simp at h
 |x::l,h,e,hm=>by
  simp only [keysShB,Bool.and_eq_true] at h
  rcases List.mem_cons.1 hm with rfl|hm
  ·exact h.1
  ·exact keysShB_mem h.2 e hm
theorem relMap_keys {G:Ghost} : ∀ {es:List (Value × HV)} {ents:List MapEntry},relMap G es ents→ents.map (·.key)=es.map (·.1)
 |[],_,h=>by simp only [relMap] at h;subst h;rfl
 |(k,x)::l,_,h=>by
  obtain ⟨e,es',rfl,hk,_,hl⟩:=h
  simp [hk,relMap_keys hl]
theorem relMap_len {G:Ghost} {es:List (Value × HV)} {ents:List MapEntry} (h:relMap G es ents):ents.length=es.length:=by
 have:=congrArg List.length (relMap_keys h)
 simpa using this
/-- What is found, or that nothing is. -/
theorem map_find {sh:Sh} {u:TypeDesc} {k:Value} (hk:keyShB sh k=true) (hu:IsKey u k) (hsh:∀ k',keyShB sh k'=true→IsKey u k') {G:Ghost} (z:HV):∀ {es:List (Value × HV)} {ents:List MapEntry},keysShB sh es=true→relMap G es ents→
  (mapB k es=false∧mapV k z es=z∧(∀ i,Instr.findNow u k ents i=some none)∧∀ x,mapSet k x es=es ++ [(k,x)])∨
  ∃ j e,mapB k es=true∧ents[j]? = some e∧e.key=k∧(∀ i,Instr.findNow u k ents i=some (some (i+j,e.val)))∧rel G (mapV k z es) e.val∧∀ x,mapSet k x es=es.set j (k,x)
 |[],ents,_,h=>by
  simp only [relMap] at h
  subst h
  exact .inl ⟨rfl,rfl,fun _=>rfl,fun _=>rfl⟩
 |(k',y)::l,ents,hs,h=>by
  obtain ⟨e,es',rfl,he,hr,hl⟩:=h
  simp only [keysShB,Bool.and_eq_true] at hs
  have hke:=keyEq_eq hk hs.1
  obtain ⟨q,hsn,hiff⟩:=sameNow_of_keys hu (he ▸ hsh k' hs.1:IsKey u e.key)
  rw [he] at hiff
  cases hq:keyEq k k' with
  |true=>
   have:=hke.1 hq
   subst this
   have hq':q=true:=hiff.2 rfl
   subst hq'
   refine .inr ⟨0,e,by simp [mapB,hq],rfl,he,fun i=>by simp [Instr.findNow,hsn],by simp only [mapV,hq,cond_true];exact hr,fun x=>by simp [mapSet,hq]⟩
  |false=>
   have hne:k≠k':=fun h=>by rw [hke.2 h] at hq;cases hq
   have hq':q=false:=by
    cases q with
    |true=>exact absurd (hiff.1 rfl) hne
    |false=>rfl
   subst hq'
   rcases map_find hk hu hsh z hs.2 hl with ⟨a1,a2,a3,a4⟩|⟨j,e1,a1,a2,a3,a4,a5,a6⟩
   ·exact .inl ⟨by simp [mapB,hq,a1],by simp [mapV,hq,a2],fun i=>by simp [Instr.findNow,hsn,a3],fun x=>by simp [mapSet,hq,a4]⟩
   ·refine .inr ⟨j+1,e1,by simp [mapB,hq,a1],by simpa using a2,a3,fun i=>?_,by simp only [mapV,hq,cond_false];exact a5,fun x=>by simp [mapSet,hq,a6]⟩
    simp only [Instr.findNow,hsn,a4]
    rw [show i+1+j=i+(j+1) by omega]
theorem relMap_push {G:Ghost} {k:Value} {x:HV} {v:Value} {b:Nat} (hx:rel G x v):∀ {es:List (Value × HV)} {ents:List MapEntry},relMap G es ents→relMap G (es ++ [(k,x)]) (ents ++ [⟨k,v,b⟩])
 |[],ents,h=>by simp only [relMap] at h;subst h;exact ⟨_,[],rfl,rfl,hx,rfl⟩
 |(k',y)::l,ents,h=>by
  obtain ⟨e,es',rfl,he,hr,hl⟩:=h
  exact ⟨e,es' ++ [⟨k,v,b⟩],rfl,he,hr,relMap_push hx hl⟩
theorem relMap_set {G:Ghost} {k:Value} {x:HV} {v:Value} (hx:rel G x v):∀ {es:List (Value × HV)} {ents:List MapEntry} (j:Nat),relMap G es ents→relMap G (es.set j (k,x)) (ents.modify j fun e=>{ e with key:=k,val:=v})
 |[],ents,j,h=>by simp only [relMap] at h;subst h;simp [relMap]
 |(k',y)::l,ents,0,h=>by
  obtain ⟨e,es',rfl,he,hr,hl⟩:=h
  exact ⟨{ e with key:=k,val:=v},es',by simp,rfl,hx,hl⟩
 |(k',y)::l,ents,j+1,h=>by
  obtain ⟨e,es',rfl,he,hr,hl⟩:=h
  exact ⟨e,_,by simp,he,hr,relMap_set hx j hl⟩
/-- A map's block is put anew. -/
theorem post_mapset {G:Ghost} {s:HS} {w:World} (h:SRel G s w) {b r:Nat} {o o':Obj} {x:Res} (hb:w.heap[b]? = some o) (hno:∀ cs t f,o≠.cells cs t f) (ro:G.role b=some r) (hr:r∈keys s)
  (hx:holds G { w with heap:=w.heap.setIfInBounds b o'} r x):Post s G w (hset s r x) G { w with heap:=w.heap.setIfInBounds b o'}:=by
 have hlt:b < w.heap.size:=(Array.getElem?_eq_some_iff.1 hb).1
 have get:∀ b',({ w with heap:=w.heap.setIfInBounds b o'} : World).heap[b']? = if b'=b then some o' else w.heap[b']?:=fun b'=>by
  by_cases e:b'=b
  ·subst e;simp [hlt]
  ·rw [if_neg e];simp [Ne.symm e]
 have hsz:({ w with heap:=w.heap.setIfInBounds b o'} : World).heap.size=w.heap.size:=by simp
 have hK:∀ off v,G.K b off≠some v:=fun off v e=>by
  have:=h.kw b off v e
  simp only [World.cell?,hb] at this
  cases o with
  |cells cs t f=>exact hno cs t f rfl
  |_=>simp at this
 refine ⟨⟨fun b' off v e=>?_,by rw [hset_keys];exact h.keys,fun q y hy=>?_,h.fresh,fun b' q e=>by rw [hsz];exact h.role b' q e⟩,⟨.refl G,by rw [hsz];exact Nat.le_refl _,fun b' _ hq=>⟨by rw [get,if_neg (fun e=>by subst e;exact hq r ro hr)],rfl,fun _=>rfl⟩,fun _ _ e _=>e,Nat.le_refl _,rfl,rfl,rfl,fun q h0 _ h1 h2 h3=>⟨h1,h2,h3⟩⟩,fun q hq=>by rw [hset_keys] at hq;exact .inl hq⟩
 ·have hne:b'≠b:=fun e'=>by subst e';exact hK off v e
  have:=h.kw b' off v e
  simp only [World.cell?,get,if_neg hne] at this ⊢
  exact this
 ·rcases hset_mem h.keys hy with ⟨rfl,rfl⟩|⟨hne,hm⟩
  ·exact hx
  ·have ho:=h.holds q y hm
   have other:∀ b',G.role b'=some q→b'≠b:=fun b' e e'=>by subst e';rw [ro] at e;cases e;exact hne rfl
   cases y with
   |cells cs t'=>
    obtain ⟨b',vs,e,ro',hh,hc,hk⟩:=ho
    exact ⟨b',vs,e,ro',by rw [get,if_neg (other b' ro')];exact hh,hc,hk⟩
   |map es=>
    obtain ⟨b',ents,cl,e,ro',hh,hc⟩:=ho
    exact ⟨b',ents,cl,e,ro',by rw [get,if_neg (other b' ro')];exact hh,hc⟩
   |tok n=>
    obtain ⟨tp,e,hn,hq⟩:=ho
    refine ⟨tp,e,hn,fun hlt=>?_⟩
    obtain ⟨ro',vs,t',hh,hce,hk⟩:=hq hlt
    exact ⟨ro',vs,t',by rw [get,if_neg (other tp.b ro')];exact hh,hce,hk⟩
   |void=>exact ho
   |loop L=>exact ho.move rfl (Ghost.Le.refl _).to0 (fun b' hr=>⟨by rw [get,if_neg (other b' hr)],hr,fun o=>rfl⟩)
   |row cs' sz' t''=>exact ho.move rfl (Ghost.Le.refl _).to0 (fun b' hr=>⟨by rw [get,if_neg (other b' hr)],hr,fun o=>rfl⟩)
theorem rel_map {G:Ghost} {r:Nat} {u:Value} (h:rel G (.map r) u):∃ b,G.om r=some b∧u = .map (some b):=by
 obtain ⟨h1,_⟩:=leaf_of h rfl
 simp only [relC] at h1
 obtain ⟨b,e,hb⟩:=h1
 exact ⟨b,e,by simpa using hb⟩
theorem makeMap_ok (c:Cx) {s:HS} {G:Ghost} {w:World} (hs:SRel G s w) (t:TypeId) (hint:Option Value) (hh:∀ v,hint=some v→∃ k n,v = .int k n) :
  ResOK c.P s G w ((do pure (Next.value (←Instr.makeMap t hint)):Sem Next).run c.P w) (hmakeMap c s t):=by
 unfold hmakeMap
 split
 ·rename_i e
  obtain ⟨i,u,h1,h2,_,_,_,_,h3,_⟩:=c.ty_ok t _ e
  obtain ⟨kt,et,hu⟩:∃ kt et,u = .map kt et:=by cases u<;>simp [shOK] at h3 ⊢
  subst hu
  have run:(Instr.makeMap t hint).run c.P w = .ok (.map (some w.heap.size)) (World.pushed w (.map #[] 0)):=by
   cases hint with
   |none=>simp [Instr.makeMap,Go.newObj,Sem.run,World.pushed]
   |some v=>
    obtain ⟨k,n,rfl⟩:=hh v rfl
    simp [Instr.makeMap,run_underlying h2,asInt,asIntOf,Go.newObj,Sem.run,World.pushed,Result.andThen]
  rintro K hK
  refine ⟨_,_,hK G.lim (fun hm=>by have:=hs.lt_key hm;omega),_,_,G.newObj w.heap.size,.inl (by rw [Sem.run_bind,run];rfl),rel_leaf (by simp only [relC];exact ⟨w.heap.size,by simp [Ghost.newObj],rfl⟩) rfl,post_newObj hs _ _ ⟨w.heap.size,#[],0,by simp [Ghost.newObj],by simp [Ghost.newObj],pushed_new w _,rfl⟩⟩
 ·trivial
theorem keySh_all {P:Program} {t:TypeId} {d:TyD} (h:TyOK P t d) {k:Value} (hk:keyShB d.sh k=true):∃ u,P.underlying t=some u∧IsKey u k∧∀ k',keyShB d.sh k'=true→IsKey u k':=by
 obtain ⟨u,h1,h2⟩:=keySh_ok h hk
 refine ⟨u,h1,h2,fun k' hk'=>?_⟩
 obtain ⟨u',h3,h4⟩:=keySh_ok h hk'
 rw [h1] at h3
 cases h3
 exact h4
theorem mapty_ok {c:Cx} {t:TypeId} {a b:Nat} {ag:Bool} {z:Value} {kt et:TypeId} (e:c.ty t=some ⟨a,b,ag,z,.map kt et⟩):c.P.underlying t=some (.map kt et):=by
 obtain ⟨i,u,h1,h2,_,_,_,_,h3,_⟩:=c.ty_ok t _ e
 cases u<;>simp [shOK] at h3
 obtain ⟨rfl,rfl⟩:=h3
 exact h2
theorem hmapRes_rel {G:Ghost} {ok:Bool} {k:Value} {z:HV} {es:List (Value × HV)} {v:Value} (h:rel G (mapV k z es) v):rel G (hmapRes ok k z es) (if ok then .tuple #[v,.bool (mapB k es)] else v):=by
 cases ok with
 |false=>exact h
 |true=>exact tup_rel (us:=[v,.bool (mapB k es)]) (by simp only [relVs_cons,relVs];exact ⟨_,_,rfl,h,_,_,rfl,rel_v G,rfl⟩)
theorem lookup_ok (c:Cx) {s:HS} {G:Ghost} {w:World} (hs:SRel G s w) (t:TypeId) {x i:HV} {u v:Value} (ok:Bool) (hx:rel G x u) (hi:rel G i v) :
  ResOK c.P s G w ((do pure (Next.value (←Instr.lookup t u v ok)):Sem Next).run c.P w) (hlookup c t x i ok):=by
 unfold hlookup
 split
 ·rename_i kt et e
  have ht:=mapty_ok e
  split
  ·rename_i k z hk hz
   obtain ⟨dk,hdk,hks,rfl⟩:=hkey_ok hk
   have:=rel_v_eq hi
   subst this
   obtain ⟨uk,hu1,hu2,hu3⟩:=keySh_all (c.ty_ok _ _ hdk) hks
   obtain ⟨de,hde,hzr⟩:=zero_ok c (G:=G) hz
   have hzz:=fun w=>(c.ty_ok _ _ hde).zero (w:=w)
   split
   ·have:=rel_v_eq hx
    subst this
    refine ⟨_,w,G,.inl ?_,hmapRes_rel (k:=v) (es:=[]) hzr,.refl hs⟩
    cases ok<;>simp [Instr.lookup,run_underlying ht,run_checkKey hu1 hu2,run_findKey (l:=[]) hu1 rfl,hzz,Result.andThen,mapB]
   ·rename_i r
    obtain ⟨b,ho,rfl⟩:=rel_map hx
    intro rx hg
    cases rx with
    |map es=>
     simp only []
     split
     ·rename_i hkb
      obtain ⟨b',ents,cl,ho',ro,hb,hm⟩:=hs.holds r _ (hget_mem hg)
      rw [ho] at ho'
      cases ho'
      have hkb':keysShB dk.sh es=true:=by simpa [hkeysB,hdk] using hkb
      rcases map_find hks hu2 hu3 z hkb' hm with ⟨a1,a2,a3,_⟩|⟨j,e1,a1,a2,a3,a4,a5,_⟩
      ·refine ⟨_,w,G,.inl ?_,hmapRes_rel (k:=v) (es:=es) (v:=de.zero) (by rw [a2];exact hzr),.refl hs⟩
       cases ok<;>simp [Instr.lookup,run_underlying ht,Go.MapKept.run_getObj_map hb,run_checkKey hu1 hu2,run_findKey hu1 (a3 0),hzz,Result.andThen,a1]
      ·refine ⟨_,w,G,.inl ?_,hmapRes_rel (k:=v) (es:=es) a5,.refl hs⟩
       cases ok<;>simp [Instr.lookup,run_underlying ht,Go.MapKept.run_getObj_map hb,run_checkKey hu1 hu2,run_findKey hu1 (a4 0),Result.andThen,a1]
     ·trivial
    |cells cs t'=>trivial
    |tok n=>trivial
    |void=>trivial
    |loop L=>trivial
    |row cs' sz' t''=>trivial
   ·trivial
  ·trivial
 ·trivial
theorem mapPut_ok (c:Cx) {s:HS} {G:Ghost} {w:World} (hs:SRel G s w) (t:TypeId) {m k x:HV} {um uk ux:Value} (hm:rel G m um) (hk0:rel G k uk) (hx:rel G x ux) :
  ResOK c.P s G w ((do Instr.mapUpdate t um uk ux;pure Next.skip:Sem Next).run c.P w) (hmapPut c s t m k x):=by
 unfold hmapPut
 split
 ·rename_i kt et e
  have ht:=mapty_ok e
  split
  ·rename_i key r hk
   obtain ⟨dk,hdk,hks,rfl⟩:=hkey_ok hk
   have:=rel_v_eq hk0
   subst this
   obtain ⟨du,hu1,hu2,hu3⟩:=keySh_all (c.ty_ok _ _ hdk) hks
   obtain ⟨b,ho,rfl⟩:=rel_map hm
   intro rx hg
   cases rx with
   |map es=>
    simp only []
    split
    ·rename_i hkb
     have hmem:=hget_mem hg
     obtain ⟨b',ents,cl,ho',ro,hb,hrm⟩:=hs.holds r _ hmem
     rw [ho] at ho'
     cases ho'
     have hkb':keysShB dk.sh es=true:=by simpa [hkeysB,hdk] using hkb
     have hlt:b < w.heap.size:=(Array.getElem?_eq_some_iff.1 hb).1
     rintro K hK
     rcases map_find hks hu2 hu3 x hkb' hrm with ⟨_,_,a3,a4⟩|⟨j,e1,_,a2,a3,a4,_,a6⟩
     ·refine ⟨_,_,hK,undef,{ w with heap:=w.heap.setIfInBounds b (.map (ents.push ⟨uk,ux,cl⟩) (cl+1))},G,.inr ⟨?_,rfl⟩,⟨rfl,by simp only [relC];exact ⟨#[],rfl,by simp [relVs]⟩⟩,post_mapset hs hb (by simp) ro (List.mem_map.2 ⟨_,hmem,rfl⟩) ⟨b,_,_,ho,ro,by simp [hlt];exact ⟨rfl,rfl⟩,?_⟩⟩
      ·simp [Instr.mapUpdate,run_underlying ht,Go.MapKept.run_getObj_map hb,run_checkKey hu1 hu2,run_findKey hu1 (a3 0),run_setObj_map _ hb,Result.andThen]
      ·rw [a4,Array.toList_push]
       exact relMap_push hx hrm
     ·refine ⟨_,_,hK,undef,{ w with heap:=w.heap.setIfInBounds b (.map (ents.modify j fun e=>{ e with key:=uk,val:=ux}) cl)},G,.inr ⟨?_,rfl⟩,⟨rfl,by simp only [relC];exact ⟨#[],rfl,by simp [relVs]⟩⟩,post_mapset hs hb (by simp) ro (List.mem_map.2 ⟨_,hmem,rfl⟩) ⟨b,_,_,ho,ro,by simp [hlt];exact ⟨rfl,rfl⟩,?_⟩⟩
      ·have a2':ents[j]? = some e1:=by simpa using a2
       simp [Instr.mapUpdate,run_underlying ht,Go.MapKept.run_getObj_map hb,run_checkKey hu1 hu2,run_findKey hu1 (a4 0),a2',a3,run_keyThatStays hu2,run_setObj_map _ hb,Result.andThen]
      ·rw [a6,Array.toList_modify]
       exact relMap_set hx j hrm
    ·trivial
   |cells cs t'=>trivial
   |tok n=>trivial
   |void=>trivial
   |loop L=>trivial
   |row cs' sz' t''=>trivial
  ·trivial
 ·trivial
end
end Go.Proofs.Hk

namespace Go.Proofs.Hk
noncomputable section
open Go
theorem ifaceNil_ok (c:Cx) {s:HS} {G:Ghost} {w:World} (hs:SRel G s w) (op:BinOp) (t:TypeId) (xo:Operand) {x:HV} {u:Value} (hx:rel G x u) :
  ResOK c.P s G w ((do pure (Next.value (←(do eqGuard op t xo (.const .nilIface) u .nilIface;binOp op t u .nilIface))):Sem Next).run c.P w) (hifaceNil c op t x):=by
 unfold hifaceNil
 split
 ·rename_i e
  obtain ⟨i,ud,_,hud,_,_,_,_,hsh,_⟩:=c.ty_ok _ _ e
  obtain ⟨ms,rfl⟩:∃ ms,ud = .interface ms:=by cases ud<;>simp [shOK] at hsh ⊢
  have key:∀ b:Bool,(Op.equalIn 10000 t u .nilIface).run c.P w = .ok b w→(eqGuard op t xo (.const .nilIface) u .nilIface).run c.P w = .ok () w→ResOK c.P s G w ((do pure (Next.value (←(do eqGuard op t xo (.const .nilIface) u .nilIface;binOp op t u .nilIface))):Sem Next).run c.P w) (hifaceEq op b):=fun b h1 h2=>by
   unfold hifaceEq
   have hb:∀ o,(o = .eql∨o = .neq)→(binOp o t u .nilIface).run c.P w = .ok (.bool (if o = .eql then b else !b)) w:=fun o ho=>by
    rcases ho with rfl|rfl<;>(cases u<;>simp_all [binOp,Op.equal,Op.maxDepth])
   split
   ·refine ⟨_,w,G,.inl ?_,rel_v G,.refl hs⟩
    simp only [Sem.run_bind,h2,Result.andThen_ok,hb .eql (.inl rfl)]
    rfl
   ·refine ⟨_,w,G,.inl ?_,rel_v G,.refl hs⟩
    simp only [Sem.run_bind,h2,Result.andThen_ok,hb .neq (.inr rfl)]
    rfl
   ·trivial
  split
  ·have:=rel_v_eq hx
   subst this
   refine key true ?_ ?_
   ·unfold Op.equalIn
    simp [run_underlying hud]
   ·cases op<;>simp [eqGuard]
  ·obtain ⟨v,rfl,_⟩:=rel_iface hx
   refine key false ?_ ?_
   ·unfold Op.equalIn
    simp [run_underlying hud]
   ·cases op<;>simp [eqGuard]
  ·trivial
 ·trivial
theorem builtin_ok (c:Cx) {s:HS} {G:Ghost} {w:World} (hs:SRel G s w) (b:Builtin) (ts:Array TypeId) (ty:TypeId) (consts:Array Bool) {xs:List HV} {vs:List Value} (hx:relVs G xs vs) :
  ResOK c.P s G w ((builtin b ts ty consts vs.toArray).run c.P w) (hbuiltin c s b ts.toList xs):=by
 unfold hbuiltin
 split
 ·rename_i t x e
  have e:ts = #[t]:=by rw [←Array.toArray_toList (xs:=ts),e]
  subst e
  simp only [relVs_cons] at hx
  obtain ⟨u,us,rfl,h1,h2⟩:=hx
  simp only [relVs] at h2
  subst h2
  exact len_ok c hs t h1 ty
 ·rename_i t u x y e
  have e:ts = #[t,u]:=by rw [←Array.toArray_toList (xs:=ts),e]
  subst e
  simp only [relVs_cons] at hx
  obtain ⟨p,us,rfl,h1,q,us',rfl,h2,h3⟩:=hx
  simp only [relVs] at h3
  subst h3
  exact append_ok c hs t u h1 h2 ty
 ·rename_i k a k' b'
  simp only [relVs_cons] at hx
  obtain ⟨p,us,rfl,h1,q,us',rfl,h2,h3⟩:=hx
  simp only [relVs] at h3
  subst h3
  have e1:=rel_v_eq h1
  have e2:=rel_v_eq h2
  subst e1 e2
  split
  ·rename_i hk
   have hk:=kindEq_eq hk
   subst hk
   exact ⟨_,w,G,.inl (by simp [builtin,Builtin.min_,Builtin.min2]),rel_v G,.refl hs⟩
  ·trivial
 ·rename_i k a k' b'
  simp only [relVs_cons] at hx
  obtain ⟨p,us,rfl,h1,q,us',rfl,h2,h3⟩:=hx
  simp only [relVs] at h3
  subst h3
  have e1:=rel_v_eq h1
  have e2:=rel_v_eq h2
  subst e1 e2
  split
  ·rename_i hk
   have hk:=kindEq_eq hk
   subst hk
   exact ⟨_,w,G,.inl (by simp [builtin,Builtin.max_,Builtin.max2]),rel_v G,.refl hs⟩
  ·trivial
 ·trivial
theorem mapArr {α β:Type} (f:α→β) (xs:Array α):(List.map f xs.toList).toArray=xs.map f:=by
 apply Array.toList_inj.1;simp
theorem hop_ok (c:Cx) {s:HS} {G:Ghost} {w:World} {n:Nat} {a:Fr} {ra:Act} (hs:SRel G s w) (hf:FRel G n a ra) (o:Oper) :
  ResOK c.P s G w ((execOp ra.eval o).run c.P w) (hop c o.op a s):=by
 obtain ⟨dst,op,type,pos,after,guard⟩:=o
 have pairs:∀ ps:Array (Nat × Operand),(ps.map fun (i,x)=>(i,ra.eval x))=((ps.toList.map (·.1)).zip (ps.toList.map fun p=>ra.eval p.2)).toArray:=fun ps=>by
  apply Array.toList_inj.1
  simp only [Array.toList_map]
  induction ps.toList with
  |nil=>rfl
  |cons p l ih=>simp [ih]
 have plen:∀ (ps:Array (Nat × Operand)) {vs:List HV},relVs G vs ((ps.toList.map (·.2)).map ra.eval)→(ps.toList.map (·.1)).length=vs.length∧relVs G vs (ps.toList.map fun p=>ra.eval p.2):=fun ps {vs} h=>by
  have:=relVs_length h
  simp only [List.map_map] at h
  exact ⟨by simpa using this,h⟩
 cases op<;>simp only [hop]<;>try trivial
 case move x=>exact arg_ok hf fun v hv=>gives_pure hs hv
 case assign x=>exact arg_ok hf fun v hv=>gives_pure hs hv
 case pick b x y=>
  refine arg_ok hf fun v hv=>?_
  split
  ·rename_i cb
   have hb:=rel_v_eq hv
   have run:∀ u v,ra.eval x=u→ra.eval y=v→(execOp ra.eval ⟨dst,.pick b x y,type,pos,after,guard⟩).run c.P w = .ok (.value (if cb then u else v)) w:=fun u v h1 h2=>by
    simp [execOp,hb,asBool,h1,h2]
   split
   ·rename_i gx p gy q hx hy
    have kx:=ev_ok hf hx
    have ky:=ev_ok hf hy
    have fin:(cb=true→ra.eval x = .bool p)→(cb=false→ra.eval y = .bool q)→Gives s G w ((execOp ra.eval ⟨dst,.pick b x y,type,pos,after,guard⟩).run c.P w) (.v (.bool (bif cb then p else q))) s:=fun h1 h2=>by
     refine ⟨_,w,G,.inl (run _ _ rfl rfl),?_,.refl hs⟩
     cases cb with
     |true=>
      simp only [if_true,h1 rfl,cond_true]
      exact rel_v G
     |false=>
      simp only [Bool.false_eq_true,if_false,h2 rfl,cond_false]
      exact rel_v G
    cases gx with
    |sure=>
     cases gy with
     |sure=>
      have base:=fin (fun _=>rel_v_eq kx) (fun _=>rel_v_eq ky)
      simp only []
      split
      ·rename_i ht
       have hp:p=true:=by
        have hx1:=isTrue_eq ht
        subst hx1
        simp only [ev,Option.some.injEq,Prod.mk.injEq,HV.v.injEq,Value.bool.injEq] at hx
        exact hx.2.symm
       rw [hp] at base
       cases cb<;>exact base
      ·split
       ·rename_i ht
        have hq:q=false:=by
         have hy1:=isFalse_eq ht
         subst hy1
         simp only [ev,Option.some.injEq,Prod.mk.injEq,HV.v.injEq,Value.bool.injEq] at hy
         exact hy.2.symm
        rw [hq] at base
        cases cb<;>exact base
       ·exact base
     |cond g=>
      simp only []
      split
      ·rename_i ht
       have hp:p=true:=by
        have hx1:=isTrue_eq ht
        subst hx1
        simp only [ev,Option.some.injEq,Prod.mk.injEq,HV.v.injEq,Value.bool.injEq] at hx
        exact hx.2.symm
       intro h
       have:=fin (fun _=>rel_v_eq kx) (fun e=>rel_v_eq (ky.1 (h e)))
       rw [hp] at this
       cases cb<;>exact this
      ·exact fun h=>fin (fun _=>rel_v_eq kx) (fun e=>rel_v_eq (ky.1 (h e)))
    |cond g'=>
     cases gy with
     |sure=>
      simp only []
      split
      ·rename_i ht
       have hq:q=false:=by
        have hy1:=isFalse_eq ht
        subst hy1
        simp only [ev,Option.some.injEq,Prod.mk.injEq,HV.v.injEq,Value.bool.injEq] at hy
        exact hy.2.symm
       intro h
       have:=fin (fun e=>rel_v_eq (kx.1 (h e))) (fun _=>rel_v_eq ky)
       rw [hq] at this
       cases cb<;>exact this
      ·exact fun h=>fin (fun e=>rel_v_eq (kx.1 (h e))) (fun _=>rel_v_eq ky)
     |cond g=>exact fun h=>fin (fun e=>rel_v_eq (kx.1 (h.1 e))) (fun e=>rel_v_eq (ky.1 (h.2 e)))
   ·rename_i gx x' gy y' hnb hx hy
    rintro K ⟨h1,h2⟩
    have kx:=ev_ok hf hx
    have ky:=ev_ok hf hy
    cases cb with
    |true=>
     have h1:=h1 rfl
     cases gx with
     |sure=>exact ⟨x',s,h1,_,w,G,.inl (run _ _ rfl rfl),kx,.refl hs⟩
     |cond g=>exact ⟨x',s,h1.2,_,w,G,.inl (run _ _ rfl rfl),kx.1 h1.1,.refl hs⟩
    |false=>
     have h2:=h2 rfl
     cases gy with
     |sure=>exact ⟨y',s,h2,_,w,G,.inl (run _ _ rfl rfl),ky,.refl hs⟩
     |cond g=>exact ⟨y',s,h2.2,_,w,G,.inl (run _ _ rfl rfl),ky.1 h2.1,.refl hs⟩
   ·trivial
  ·trivial
 case alloc t=>
  split
  ·rename_i z hz
   obtain ⟨d,hd,hr⟩:=zero_ok c (G:=G) hz
   have ht:=c.ty_ok t d hd
   have:=new_ok c.P hs t hr
   have e:(execOp ra.eval ⟨dst,.alloc t,type,pos,after,guard⟩).run c.P w=(do pure (Next.value (←(do pure (Value.pointer (some (←newVar t d.zero)))))):Sem Next).run c.P w:=by
    simp [execOp,Instr.alloc,ht.zero]
   rw [e]
   exact this
  ·trivial
 case box t x=>exact arg_ok hf fun v hv=>new_ok c.P hs t hv
 case build t ps=>
  refine argsM_ok hf fun vs hvs=>?_
  obtain ⟨h1,h2⟩:=plen ps hvs
  have:=build_ok c hs t h1 h2
  rw [←pairs ps] at this
  exact this
 case buildSlice t m ps=>
  refine argsM_ok hf fun vs hvs=>?_
  obtain ⟨h1,h2⟩:=plen ps hvs
  have:=buildSlice_ok c hs t m h1 h2
  rw [←pairs ps] at this
  exact this
 case load t p=>exact arg_ok hf fun v hv=>load_ok c hs t hv
 case store t p x=>exact arg_ok hf fun v hv=>arg_ok hf fun v' hv'=>store_ok c hs t hv hv'
 case nilCheck x=>
  refine arg_ok hf fun v hv=>?_
  split
  ·obtain ⟨b,hb,e⟩:=rel_ptr hv
   exact ⟨_,w,G,.inl (by simp [execOp,e]),e ▸ hv,.refl hs⟩
  ·obtain ⟨b,o,e⟩:=rel_cptr hv
   exact ⟨_,w,G,.inl (by simp [execOp,e]),e ▸ hv,.refl hs⟩
  ·obtain ⟨a',b,e,_⟩:=rel_fn hv
   exact ⟨_,w,G,.inl (by simp [execOp,e]),e ▸ hv,.refl hs⟩
  ·trivial
 case binOp op t x y yt=>
  split
  ·rename_i hy
   have hy:y = .const .nilIface:=by
    unfold isNilC at hy
    split at hy
    ·rfl
    ·cases hy
   subst hy
   exact arg_ok hf fun u hu=>ifaceNil_ok c hs op t x hu
  ·exact arg_ok hf fun u hu=>arg_ok hf fun v hv=>binT_ok c s G w hs op t x y u v _ _ hu hv
 case unOp op t x=>
  refine arg_ok hf fun v hv=>?_
  split
  ·have e:=rel_v_eq hv
   exact ⟨_,w,G,.inl (by simp [execOp,e,Op.unary]),rel_v G,.refl hs⟩
  ·have e:=rel_v_eq hv
   exact ⟨_,w,G,.inl (by simp [execOp,e,Op.unary,Op.intArith]),rel_v G,.refl hs⟩
  ·trivial
 case convert src dst x=>exact arg_ok hf fun v hv=>convert_ok c hs src dst hv
 case makeFunc fn fi ca=>
  refine argsM_ok hf fun vs hvs=>argsM_ok hf fun vs' hvs'=>?_
  exact ⟨.func fn (fi.map ra.eval) (ca.map ra.eval),w,G,.inl (by simp [execOp,Instr.makeFunc]),by have:=fn_rel (f:=fn) hvs hvs';rwa [mapArr,mapArr] at this,.refl hs⟩
 case makeSlice t x y=>exact arg_ok hf fun v hv=>arg_ok hf fun v' hv'=>makeSlice_ok c hs t _ hv hv'
 case slice t x lo hi mx=>exact arg_ok hf fun v hv=>argO_ok hf fun v1 h1=>argO_ok hf fun v2 h2=>argO_ok hf fun v3 h3=>slice_ok c hs t hv h1 h2 h3
 case fieldAddr t x f=>exact arg_ok hf fun v hv=>fieldAddr_ok c hs t f hv
 case field t x f=>exact arg_ok hf fun v hv=>field_ok c hs t f hv
 case indexAddr t x i=>exact arg_ok hf fun v hv=>arg_ok hf fun v' hv'=>indexAddr_ok c hs t hv hv'
 case index t x i=>exact arg_ok hf fun v hv=>arg_ok hf fun v' hv'=>index_ok c hs t hv hv'
 case extract x i=>
  refine arg_ok hf fun v hv=>?_
  split
  ·rename_i l
   split
   ·rename_i y hy
    obtain ⟨us,e,h⟩:=rel_tup_inv hv
    obtain ⟨u,hu,hr⟩:=relVs_get h i y hy
    have hu':us[i]? = some u:=by simpa using hu
    exact ⟨_,w,G,.inl (by simp [execOp,e,Instr.extract,hu']),hr,.refl hs⟩
   ·trivial
  ·trivial
 case makeInterface t x=>
  refine arg_ok hf fun v hv=>?_
  split
  ·trivial
  ·trivial
  ·rename_i d h0 h1 h2
   have ht:=c.ty_ok t d h2
   obtain ⟨u,hu,hsh,_⟩:=ht.und (w:=w)
   refine ⟨_,w,G,.inl ?_,iface_rel hv,.refl hs⟩
   have hni:∀ m,u≠.interface m:=fun m e=>by
    subst e
    obtain ⟨d1,d2,d3,d4,d5⟩:=d
    cases d5<;>simp only [shOK] at hsh
    ·exact h0 _ _ _ _ rfl
    ·exact h1 _ _ _ _ rfl
   simp only [execOp,Instr.makeInterface,Sem.run_bind,hu,Result.andThen_ok]
   cases u<;>first|rfl|exact absurd rfl (hni _)
  ·trivial
 case panic x=>
  refine arg_ok hf fun v hv=>?_
  split
  ·rename_i t y
   intro _
   obtain ⟨u,e,hr⟩:=rel_iface hv
   exact ⟨_,by simp [execOp,e,Instr.panic,goPanic,Sem.run],iface_rel hr⟩
  ·trivial
 case makeMap t r=>
  cases r with
  |none=>
   simp only [hop]
   exact makeMap_ok c hs t none (by simp)
  |some x=>
   simp only [hop]
   refine arg_ok hf fun v hv=>?_
   split
   ·rename_i k n
    have e:=rel_v_eq hv
    have:=makeMap_ok c hs t (some (.int k n)) (fun v h=>by cases h;exact ⟨k,n,rfl⟩)
    simpa [execOp,e] using this
   ·trivial
 case lookup t x i ok=>exact arg_ok hf fun v hv=>arg_ok hf fun v' hv'=>lookup_ok c hs t ok hv hv'
 case insert t m k x=>exact arg_ok hf fun v hv=>arg_ok hf fun v' hv'=>arg_ok hf fun v'' hv''=>mapPut_ok c hs t hv hv' hv''
 case mapUpdate t m k x=>exact arg_ok hf fun v hv=>arg_ok hf fun v' hv'=>arg_ok hf fun v'' hv''=>mapPut_ok c hs t hv hv' hv''
 case call cl=>
  obtain ⟨callee,xs,ts⟩:=cl
  cases callee with
  |value f=>
   refine arg_ok hf fun v hv=>argsM_ok hf fun vs hvs=>?_
   have:=call_ok c (s:=s) (w:=w) hv hvs
   rw [mapArr] at this
   simpa [execOp,resolve] using this
  |invoke r m=>
   refine arg_ok hf fun v hv=>argsM_ok hf fun vs hvs=>?_
   have:=invoke_ok c (s:=s) (w:=w) (m:=m) hv hvs
   rw [mapArr] at this
   simpa [execOp,resolve] using this
  |builtin b=>
   refine argsM_ok hf fun vs hvs=>?_
   simp only [execOp,resolve,invoke,pure_bind]
   rw [←mapArr ra.eval xs]
   exact builtin_ok c hs b ts type _ hvs
end
end Go.Proofs.Hk

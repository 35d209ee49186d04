import Derived.Test.YtoaccdmeojjdjaaGreatDoorHZ
set_option linter.unusedSimpArgs false
set_option linter.unusedVariables false
namespace Go.Proofs.Hk
noncomputable section
open Go Go.Proofs Go.RowKit Go.WideShapes Go.ChangeShapes
/-- Whatever is read at this type is one of the domain's. -/
def Opens {H:Type} (enc:TypeId × Value→H) (P:Program) (w:World) (t:TypeId) (α:Type) (e:α→HV) (Q:α→Prop):Prop:=
 (∀ x,(e x).kd≠.tup)∧∀ fuel cs d,DataW.trod enc P w 0 (fun _=>true) true fuel t cs=some d→∃ x,Q x∧relC (entryG w) (e x) cs
section
variable {H:Type} {enc:TypeId × Value→H} {P:Program} {w:World}
theorem opens_bool {t:TypeId} (ht:P.underlying t=some .bool):Opens enc P w t Bool (fun b=>.v (.bool b)) (fun _=>True):=by
 refine ⟨fun _=>by simp [HV.kd],fun fuel cs d h=>?_⟩
 cases fuel with
 |zero=>simp [DataW.trod] at h
 |succ n=>
  unfold DataW.trod at h
  rw [ht] at h
  split at h<;>first|(rename_i he;cases he)|skip
  ·rename_i b
   exact ⟨b,trivial,by simp [relC,vkd]⟩
  ·cases h
theorem opens_int {t:TypeId} {k:IntKind} (ht:P.underlying t=some (.int k)):Opens enc P w t Int (fun n=>.v (.int k n)) (fun n=>(Lit.int k n).wf=true):=by
 refine ⟨fun _=>by simp [HV.kd],fun fuel cs d h=>?_⟩
 cases fuel with
 |zero=>simp [DataW.trod] at h
 |succ n=>
  unfold DataW.trod at h
  rw [ht] at h
  split at h<;>first|(rename_i he;cases he)|skip
  ·split at h
   ·rename_i hc
    obtain ⟨rfl,hw⟩:=hc
    exact ⟨_,hw,by simp [relC,vkd]⟩
   ·cases h
  ·cases h
theorem opens_string {t:TypeId} (ht:P.underlying t=some .string):Opens enc P w t ByteArray (fun b=>.v (.string b)) (fun b=>b.size≤maxLen):=by
 refine ⟨fun _=>by simp [HV.kd],fun fuel cs d h=>?_⟩
 cases fuel with
 |zero=>simp [DataW.trod] at h
 |succ n=>
  unfold DataW.trod at h
  rw [ht] at h
  split at h<;>first|(rename_i he;cases he)|skip
  ·split at h
   ·rename_i hc
    exact ⟨_,hc,by simp [relC,vkd]⟩
   ·cases h
  ·cases h
theorem build {α:Type} (R:Nat→α→Prop):∀ n:Nat,(∀ i,i < n→∃ x,R i x)→∃ l:List α,l.length=n∧∀ i x,l[i]? = some x→R i x
 |0,_=>⟨[],rfl,fun i x h=>by simp at h⟩
 |n+1,h=>by
  obtain ⟨l,hl,hr⟩:=build R n (fun i hi=>h i (by omega))
  obtain ⟨x,hx⟩:=h n (by omega)
  refine ⟨l ++ [x],by simp [hl],fun i y hy=>?_⟩
  by_cases hi:i < n
  ·rw [List.getElem?_append_left (by omega)] at hy
   exact hr i y hy
  ·have hin:i < (l ++ [x]).length:=(List.getElem?_eq_some_iff.1 hy).1
   simp only [List.length_append,List.length_cons,List.length_nil] at hin
   have:i=n:=by omega
   subst this
   rw [List.getElem?_append_right (by omega),hl] at hy
   simp at hy
   exact hy ▸ hx
theorem relAts_of {G:Ghost} {rd:Nat→Option Value} {sz:Nat} : ∀ {l:List HV} {o:Nat},(∀ i x,l[i]? = some x→∃ cs:List Value,cs.length=sz∧x.kd≠.tup∧(∀ j,j < sz→rd (o+i * sz+j)=cs[j]?)∧relC G x cs)→relAts G l rd o sz
 |[],_,_=>by simp only [relAts]
 |x::xs,o,h=>by
  simp only [relAts]
  refine ⟨?_,relAts_of fun i y hy=>?_⟩
  ·have:=h 0 x rfl
   simpa using this
  ·obtain ⟨cs,h1,h2,h3,h4⟩:=h (i+1) y (by simpa using hy)
   refine ⟨cs,h1,h2,fun j hj=>?_,h4⟩
   rw [←h3 j hj,Nat.add_mul,Nat.one_mul]
   congr 1
   omega
theorem cells_of {a:Addr} {n:Nat} {cs:List Value} (h:w.cells? 0 a n=some cs):cs.length=n∧∀ j,j < n→w.cell? (a.add j)=cs[j]?:=by
 unfold World.cells? at h
 rw [if_pos (Nat.zero_le _)] at h
 have hl:cs.length=n:=by simpa using mapM_some_length h
 refine ⟨hl,fun j hj=>?_⟩
 have:=mapM_some_get h j j (by simp [hj])
 simpa using this
theorem add_add (b o m n:Nat):(Addr.add ⟨b,o,none⟩ m).add n=⟨b,o+m+n,none⟩:=by
 unfold Addr.add
 split<;>split<;>simp_all
theorem opens_slice {t el:TypeId} {n:Nat} {α:Type} {e:α→HV} {Q:α→Prop} (ht:P.underlying t=some (.slice el)) (hn:P.cellsOf el=n) (hpos:0 < n) (hel:Opens enc P w el α e Q) :
  Opens enc P w t (List α) (fun l=>.list .no n (l.map e)) (fun l=>(∀ x∈l,Q x)∧l.length≤maxLen):=by
 refine ⟨fun _=>by simp [HV.kd],fun fuel cs d h=>?_⟩
 cases fuel with
 |zero=>simp [DataW.trod] at h
 |succ f=>
  unfold DataW.trod at h
  rw [ht] at h
  split at h<;>first|(rename_i he;cases he;done)|skip
  ·exact ⟨[],⟨fun _ h=>(List.not_mem_nil h).elim,Nat.zero_le _⟩,by simp [relC,tokNil]⟩
  ·rename_i he
   cases he
   rename_i _ _ a len cap
   simp only [hn] at h
   split at h
   ·rename_i hc
    obtain ⟨_,hlc,hcm⟩:=hc
    rw [Option.bind_eq_some_iff] at h
    obtain ⟨elems,h1,h2⟩:=h
    have spot:∀ i y,(w.cells? 0 (a.add (i * n)) n).bind (DataW.trod enc P w 0 (fun _=>true) true f el)=some y→i=0→a.spot=none:=by
     rintro i y hy rfl
     rw [Option.bind_eq_some_iff] at hy
     obtain ⟨cs,hc,_⟩:=hy
     obtain ⟨k1,k2⟩:=cells_of hc
     have:=k2 0 hpos
     rw [Nat.zero_mul] at this
     rw [show (a.add 0).add 0=a from rfl,List.getElem?_eq_getElem (by omega)] at this
     unfold World.cell? at this
     split at this
     ·split at this
      ·cases this
      ·rename_i hs
       simpa using hs
     ·cases this
    have key:∀ i,i < len→∃ y,(w.cells? 0 (a.add (i * n)) n).bind (DataW.trod enc P w 0 (fun _=>true) true f el)=some y:=fun i hi=>by
     have hl:elems.length=len:=by simpa using mapM_some_length h1
     have:=mapM_some_get h1 i i (by simp [hi])
     rw [List.getElem?_eq_getElem (by omega)] at this
     exact ⟨_,this⟩
    by_cases h0:cap=0
    ·subst h0
     have:len=0:=by omega
     subst this
     exact ⟨[],⟨fun _ h=>(List.not_mem_nil h).elim,Nat.zero_le _⟩,by simp only [List.map_nil,relC];exact .inr (.inr ⟨trivial,fun _ _=>by simp,a,rfl⟩)⟩
    ·have hs:a.spot=none:=by
      by_cases hl:len=0
      ·subst hl
       simp only [if_true] at h2
       rw [Option.map_eq_some_iff] at h2
       obtain ⟨rest,h3,_⟩:=h2
       have hl:rest.length=cap - 0:=by simpa using mapM_some_length h3
       have:=mapM_some_get h3 0 0 (by rw [List.getElem?_range (by omega)])
       rw [List.getElem?_eq_getElem (show 0 < rest.length by omega)] at this
       exact spot 0 _ (by simpa using this) rfl
      ·obtain ⟨y,hy⟩:=key 0 (by omega)
       exact spot 0 y hy rfl
     obtain ⟨b,o,sp⟩:=a
     cases hs
     obtain ⟨l,hl,hr⟩:=build (fun i x=>Q x∧∃ cs:List Value,cs.length=n∧(∀ j,j < n→(entryG w).K b (o+i * n+j)=cs[j]?)∧relC (entryG w) (e x) cs) len fun i hi=>by
      obtain ⟨y,hy⟩:=key i hi
      rw [Option.bind_eq_some_iff] at hy
      obtain ⟨cs,hc,hd⟩:=hy
      obtain ⟨k1,k2⟩:=cells_of hc
      obtain ⟨x,hx,hr⟩:=hel.2 _ _ _ hd
      refine ⟨x,hx,cs,k1,fun j hj=>?_,hr⟩
      rw [←k2 j hj,add_add]
      rfl
     refine ⟨l,⟨fun x hx=>?_,by omega⟩,?_⟩
     ·obtain ⟨i,hi,rfl⟩:=List.getElem_of_mem hx
      exact (hr i _ (List.getElem?_eq_getElem hi)).1
     ·simp only [relC]
      refine .inr (.inl ⟨b,o,cap,by simp [hl],by simp;omega,relAts_of fun i x hx=>?_,trivial⟩)
      rw [List.getElem?_map,Option.map_eq_some_iff] at hx
      obtain ⟨y,hy,rfl⟩:=hx
      obtain ⟨_,cs,k1,k2,k3⟩:=hr i y hy
      exact ⟨cs,k1,hel.1 y,k2,k3⟩
   ·cases h
  ·cases h
/-- The fields of a structure, one by one. -/
def fieldsOk (enc:TypeId × Value→H) (P:Program) (w:World) (cs:List Value):List Field→Prop
 |[]=>True
 |f::l=>(∃ fuel y,DataW.trod enc P w 0 (fun _=>true) true fuel f.type ((cs.drop f.offset).take (P.cellsOf f.type))=some y)∧fieldsOk enc P w cs l
theorem struct_of {t:TypeId} {fs:Array Field} (ht:P.underlying t=some (.struct fs)) {fuel:Nat} {cs:List Value} {d:DataW H × List MemPlace} (h:DataW.trod enc P w 0 (fun _=>true) true fuel t cs=some d):cs.length=P.cellsOf t∧fieldsOk enc P w cs fs.toList:=by
 cases fuel with
 |zero=>simp [DataW.trod] at h
 |succ f=>
  unfold DataW.trod at h
  rw [ht] at h
  split at h<;>first|(rename_i he;cases he;done)|skip
  ·rename_i he
   cases he
   split at h
   ·rename_i hl
    refine ⟨hl,?_⟩
    rw [Option.map_eq_some_iff] at h
    obtain ⟨xs,h,hd⟩:=h
    clear hd
    generalize fs.toList=l at h
    clear hl
    induction l generalizing xs with
    |nil=>trivial
    |cons x l ih=>
     rw [List.mapM_cons] at h
     simp only [bind,Option.bind_eq_some_iff] at h
     obtain ⟨y,hy,ys,hys,_⟩:=h
     exact ⟨⟨f,y,hy⟩,ih ys hys⟩
   ·cases h
  all_goals simp_all
theorem rel_struct {W:World} {r:Reach} {base:Nat} {t:TypeId} {fs:Array Field} {v:Value} {y:HV} {G:Ghost} (ht:P.underlying t=some (.struct fs)) (hk:y.kd = .agg) (hval:Value.okWide P W r base t v) (h:relC G y v.cells.toList):rel G y v:=by
 unfold Value.okWide at hval
 rw [ht] at hval
 obtain ⟨cs,rfl,_⟩:=hval
 exact ⟨hk,h⟩
theorem rel_slice {W:World} {r:Reach} {base:Nat} {t e:TypeId} {v:Value} {y:HV} {G:Ghost} (ht:P.underlying t=some (.slice e)) (hk:y.kd = .one) (hval:Value.okWide P W r base t v) (h:relC G y v.cells.toList):rel G y v:=by
 unfold Value.okWide at hval
 rw [ht] at hval
 cases v<;>first|exact ⟨hk,h⟩|(exfalso;simp [Cell.okWide,Cell.ok,ht] at hval)
end
end
end Go.Proofs.Hk

set_option linter.unusedSimpArgs false
set_option linter.unusedVariables false
namespace Go.Proofs.Hk
noncomputable section
open Go Go.Proofs Go.RowKit Go.WideShapes Go.ChangeShapes
/-- As Opens, with less fuel than so much. -/
def OpensU {H:Type} (N:Nat) (enc:TypeId × Value→H) (P:Program) (w:World) (t:TypeId) (α:Type) (e:α→HV) (Q:α→Prop):Prop:=
 (∀ x,(e x).kd≠.tup)∧∀ fuel,fuel < N→∀ cs d,DataW.trod enc P w 0 (fun _=>true) true fuel t cs=some d→∃ x,Q x∧relC (entryG w) (e x) cs
section
variable {H:Type} {enc:TypeId × Value→H} {P:Program} {w:World}
theorem Opens.u {t:TypeId} {α:Type} {e:α→HV} {Q:α→Prop} (h:Opens enc P w t α e Q) (N:Nat):OpensU N enc P w t α e Q:=⟨h.1,fun f _ cs d hd=>h.2 f cs d hd⟩
theorem OpensU.all {t:TypeId} {α:Type} {e:α→HV} {Q:α→Prop} (h:∀ N,OpensU N enc P w t α e Q):Opens enc P w t α e Q:=⟨(h 0).1,fun f cs d hd=>(h (f+1)).2 f (Nat.lt_succ_self f) cs d hd⟩
theorem opens_sliceU {N:Nat} {t el:TypeId} {n:Nat} {α:Type} {e:α→HV} {Q:α→Prop} (ht:P.underlying t=some (.slice el)) (hn:P.cellsOf el=n) (hpos:0 < n) (hel:OpensU N enc P w el α e Q) :
  OpensU (N+1) enc P w t (List α) (fun l=>.list .no n (l.map e)) (fun l=>(∀ x∈l,Q x)∧l.length≤maxLen):=by
 refine ⟨fun _=>by simp [HV.kd],fun fuel hfuel cs d h=>?_⟩
 cases fuel with
 |zero=>simp [DataW.trod] at h
 |succ f=>
  unfold DataW.trod at h
  rw [ht] at h
  split at h<;>first|(rename_i he;cases he;done)|skip
  ·exact ⟨[],⟨fun _ h=>(List.not_mem_nil h).elim,Nat.zero_le _⟩,by simp [relC,tokNil]⟩
  ·rename_i he
   cases he
   rename_i _ _ a len cap
   simp only [hn] at h
   split at h
   ·rename_i hc
    obtain ⟨_,hlc,hcm⟩:=hc
    rw [Option.bind_eq_some_iff] at h
    obtain ⟨elems,h1,h2⟩:=h
    have spot:∀ i y,(w.cells? 0 (a.add (i * n)) n).bind (DataW.trod enc P w 0 (fun _=>true) true f el)=some y→i=0→a.spot=none:=by
     rintro i y hy rfl
     rw [Option.bind_eq_some_iff] at hy
     obtain ⟨cs,hc,_⟩:=hy
     obtain ⟨k1,k2⟩:=cells_of hc
     have:=k2 0 hpos
     rw [Nat.zero_mul] at this
     rw [show (a.add 0).add 0=a from rfl,List.getElem?_eq_getElem (by omega)] at this
     unfold World.cell? at this
     split at this
     ·split at this
      ·cases this
      ·rename_i hs
       simpa using hs
     ·cases this
    have key:∀ i,i < len→∃ y,(w.cells? 0 (a.add (i * n)) n).bind (DataW.trod enc P w 0 (fun _=>true) true f el)=some y:=fun i hi=>by
     have hl:elems.length=len:=by simpa using mapM_some_length h1
     have:=mapM_some_get h1 i i (by simp [hi])
     rw [List.getElem?_eq_getElem (by omega)] at this
     exact ⟨_,this⟩
    by_cases h0:cap=0
    ·subst h0
     have:len=0:=by omega
     subst this
     exact ⟨[],⟨fun _ h=>(List.not_mem_nil h).elim,Nat.zero_le _⟩,by simp only [List.map_nil,relC];exact .inr (.inr ⟨trivial,fun _ _=>by simp,a,rfl⟩)⟩
    ·have hs:a.spot=none:=by
      by_cases hl:len=0
      ·subst hl
       simp only [if_true] at h2
       rw [Option.map_eq_some_iff] at h2
       obtain ⟨rest,h3,_⟩:=h2
       have hl:rest.length=cap - 0:=by simpa using mapM_some_length h3
       have:=mapM_some_get h3 0 0 (by rw [List.getElem?_range (by omega)])
       rw [List.getElem?_eq_getElem (show 0 < rest.length by omega)] at this
       exact spot 0 _ (by simpa using this) rfl
      ·obtain ⟨y,hy⟩:=key 0 (by omega)
       exact spot 0 y hy rfl
     obtain ⟨b,o,sp⟩:=a
     cases hs
     obtain ⟨l,hl,hr⟩:=build (fun i x=>Q x∧∃ cs:List Value,cs.length=n∧(∀ j,j < n→(entryG w).K b (o+i * n+j)=cs[j]?)∧relC (entryG w) (e x) cs) len fun i hi=>by
      obtain ⟨y,hy⟩:=key i hi
      rw [Option.bind_eq_some_iff] at hy
      obtain ⟨cs,hc,hd⟩:=hy
      obtain ⟨k1,k2⟩:=cells_of hc
      obtain ⟨x,hx,hr⟩:=hel.2 _ (by omega) _ _ hd
      refine ⟨x,hx,cs,k1,fun j hj=>?_,hr⟩
      rw [←k2 j hj,add_add]
      rfl
     refine ⟨l,⟨fun x hx=>?_,by omega⟩,?_⟩
     ·obtain ⟨i,hi,rfl⟩:=List.getElem_of_mem hx
      exact (hr i _ (List.getElem?_eq_getElem hi)).1
     ·simp only [relC]
      refine .inr (.inl ⟨b,o,cap,by simp [hl],by simp;omega,relAts_of fun i x hx=>?_,trivial⟩)
      rw [List.getElem?_map,Option.map_eq_some_iff] at hx
      obtain ⟨y,hy,rfl⟩:=hx
      obtain ⟨_,cs,k1,k2,k3⟩:=hr i y hy
      exact ⟨cs,k1,hel.1 y,k2,k3⟩
   ·cases h
  ·cases h
/-- The fields of a structure, one by one, with the fuel. -/
def fieldsOkF (enc:TypeId × Value→H) (P:Program) (w:World) (fuel:Nat) (cs:List Value):List Field→Prop
 |[]=>True
 |f::l=>(∃ y,DataW.trod enc P w 0 (fun _=>true) true fuel f.type ((cs.drop f.offset).take (P.cellsOf f.type))=some y)∧fieldsOkF enc P w fuel cs l
theorem struct_ofF {t:TypeId} {fs:Array Field} (ht:P.underlying t=some (.struct fs)) {fuel:Nat} {cs:List Value} {d:DataW H × List MemPlace} (h:DataW.trod enc P w 0 (fun _=>true) true fuel t cs=some d):∃ f,fuel=f+1∧cs.length=P.cellsOf t∧fieldsOkF enc P w f cs fs.toList:=by
 cases fuel with
 |zero=>simp [DataW.trod] at h
 |succ f=>
  unfold DataW.trod at h
  rw [ht] at h
  split at h<;>first|(rename_i he;cases he;done)|skip
  ·rename_i he
   cases he
   split at h
   ·rename_i hl
    refine ⟨f,rfl,hl,?_⟩
    rw [Option.map_eq_some_iff] at h
    obtain ⟨xs,h,hd⟩:=h
    clear hd
    generalize fs.toList=l at h
    clear hl
    induction l generalizing xs with
    |nil=>trivial
    |cons x l ih=>
     rw [List.mapM_cons] at h
     simp only [bind,Option.bind_eq_some_iff] at h
     obtain ⟨y,hy,ys,hys,_⟩:=h
     exact ⟨⟨y,hy⟩,ih ys hys⟩
   ·cases h
  all_goals simp_all
end
end
end Go.Proofs.Hk

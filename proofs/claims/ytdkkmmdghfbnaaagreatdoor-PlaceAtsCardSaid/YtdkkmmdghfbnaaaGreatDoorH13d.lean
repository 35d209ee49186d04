import Derived.Test.YtdkkmmdghfbnaaaGreatDoorH10
import Derived.MapKept
import Derived.Orders
namespace Go.Proofs.Hk
noncomputable section
open Go Go.MapKept
theorem strEq_eq {a b:ByteArray} : strEq a b=true↔a=b:=by
 unfold strEq
 rw [beq_iff_eq,ByteArray.toList_eq,ByteArray.toList_eq]
 constructor
 ·intro h
  cases a;cases b
  simp only at h
  congr 1
  exact Array.toList_inj.1 h
 ·intro h;rw [h]
/-- Which keys a type has. -/
theorem keySh_ok {P:Program} {t:TypeId} {d:TyD} (h:TyOK P t d) {k:Value} (hk:keyShB d.sh k=true):∃ u,P.underlying t=some u∧IsKey u k:=by
 obtain ⟨i,u,h1,h2,_,_,_,_,h3,_⟩:=h
 refine ⟨u,h2,?_⟩
 cases k<;>simp only [keyShB] at hk<;>try (cases hk;done)
 all_goals
  generalize d.sh=sh at hk h3
  cases sh<;>simp only at hk<;>try (cases hk;done)
 ·have:=kindEq_eq hk
  subst this
  cases u<;>simp only [shOK] at h3
  subst h3
  simp [IsKey]
 ·cases u<;>simp only [shOK] at h3
  simp [IsKey]
theorem keyEq_eq {sh:Sh} {a b:Value} (ha:keyShB sh a=true) (hb:keyShB sh b=true):keyEq a b=true↔a=b:=by
 cases a<;>simp only [keyShB] at ha<;>try (cases ha;done)
 all_goals cases b<;>simp only [keyShB] at hb<;>try (cases hb;done)
 all_goals cases sh<;>simp only at ha hb<;>try (first|(cases ha;done)|(cases hb;done))
 ·have h1:=kindEq_eq ha
  have h2:=kindEq_eq hb
  subst h1
  subst h2
  simp [keyEq]
 ·simp [keyEq,strEq_eq]
theorem hkey_ok {c:Cx} {t:TypeId} {x:HV} {k:Value} (h:hkey c t x=some k):∃ d,c.ty t=some d∧keyShB d.sh k=true∧x = .v k:=by
 unfold hkey at h
 split at h
 ·rename_i e
  cases h
  exact ⟨_,e,rfl,rfl⟩
 ·rename_i e
  split at h
  ·rename_i hk
   cases h
   exact ⟨_,e,hk,rfl⟩
  ·cases h
 ·cases h
theorem keysShB_mem {sh:Sh} : ∀ {es:List (Value × HV)},keysShB sh es=true→∀ e∈es,keyShB sh e.1=true
 |[],_,e,h=>by simp at h
 |x::l,h,e,hm=>by
  simp only [keysShB,Bool.and_eq_true] at h
  rcases List.mem_cons.1 hm with rfl|hm
  ·exact h.1
  ·exact keysShB_mem h.2 e hm
theorem relMap_keys {G:Ghost} : ∀ {es:List (Value × HV)} {ents:List MapEntry},relMap G es ents→ents.map (·.key)=es.map (·.1)
 |[],_,h=>by simp only [relMap] at h;subst h;rfl
 |(k,x)::l,_,h=>by
  obtain ⟨e,es',rfl,hk,_,hl⟩:=h
  simp [hk,relMap_keys hl]
theorem relMap_len {G:Ghost} {es:List (Value × HV)} {ents:List MapEntry} (h:relMap G es ents):ents.length=es.length:=by
 have:=congrArg List.length (relMap_keys h)
 simpa using this
/-- What is found, or that nothing is. -/
theorem map_find {sh:Sh} {u:TypeDesc} {k:Value} (hk:keyShB sh k=true) (hu:IsKey u k) (hsh:∀ k',keyShB sh k'=true→IsKey u k') {G:Ghost} (z:HV):∀ {es:List (Value × HV)} {ents:List MapEntry},keysShB sh es=true→relMap G es ents→
  (mapB k es=false∧mapV k z es=z∧(∀ i,Instr.findNow u k ents i=some none)∧∀ x,mapSet k x es=es ++ [(k,x)])∨
  ∃ j e,mapB k es=true∧ents[j]? = some e∧e.key=k∧(∀ i,Instr.findNow u k ents i=some (some (i+j,e.val)))∧rel G (mapV k z es) e.val∧∀ x,mapSet k x es=es.set j (k,x)
 |[],ents,_,h=>by
  simp only [relMap] at h
  subst h
  exact .inl ⟨rfl,rfl,fun _=>rfl,fun _=>rfl⟩
 |(k',y)::l,ents,hs,h=>by
  obtain ⟨e,es',rfl,he,hr,hl⟩:=h
  simp only [keysShB,Bool.and_eq_true] at hs
  have hke:=keyEq_eq hk hs.1
  obtain ⟨q,hsn,hiff⟩:=sameNow_of_keys hu (he ▸ hsh k' hs.1:IsKey u e.key)
  rw [he] at hiff
  cases hq:keyEq k k' with
  |true=>
   have:=hke.1 hq
   subst this
   have hq':q=true:=hiff.2 rfl
   subst hq'
   refine .inr ⟨0,e,by simp [mapB,hq],rfl,he,fun i=>by simp [Instr.findNow,hsn],by simp only [mapV,hq,cond_true];exact hr,fun x=>by simp [mapSet,hq]⟩
  |false=>
   have hne:k≠k':=fun h=>by rw [hke.2 h] at hq;cases hq
   have hq':q=false:=by
    cases q with
    |true=>exact absurd (hiff.1 rfl) hne
    |false=>rfl
   subst hq'
   rcases map_find hk hu hsh z hs.2 hl with ⟨a1,a2,a3,a4⟩|⟨j,e1,a1,a2,a3,a4,a5,a6⟩
   ·exact .inl ⟨by simp [mapB,hq,a1],by simp [mapV,hq,a2],fun i=>by simp [Instr.findNow,hsn,a3],fun x=>by simp [mapSet,hq,a4]⟩
   ·refine .inr ⟨j+1,e1,by simp [mapB,hq,a1],by simpa using a2,a3,fun i=>?_,by simp only [mapV,hq,cond_false];exact a5,fun x=>by simp [mapSet,hq,a6]⟩
    simp only [Instr.findNow,hsn,a4]
    rw [show i+1+j=i+(j+1) by omega]
theorem relMap_push {G:Ghost} {k:Value} {x:HV} {v:Value} {b:Nat} (hx:rel G x v):∀ {es:List (Value × HV)} {ents:List MapEntry},relMap G es ents→relMap G (es ++ [(k,x)]) (ents ++ [⟨k,v,b⟩])
 |[],ents,h=>by simp only [relMap] at h;subst h;exact ⟨_,[],rfl,rfl,hx,rfl⟩
 |(k',y)::l,ents,h=>by
  obtain ⟨e,es',rfl,he,hr,hl⟩:=h
  exact ⟨e,es' ++ [⟨k,v,b⟩],rfl,he,hr,relMap_push hx hl⟩
theorem relMap_set {G:Ghost} {k:Value} {x:HV} {v:Value} (hx:rel G x v):∀ {es:List (Value × HV)} {ents:List MapEntry} (j:Nat),relMap G es ents→relMap G (es.set j (k,x)) (ents.modify j fun e=>{ e with key:=k,val:=v})
 |[],ents,j,h=>by simp only [relMap] at h;subst h;simp [relMap]
 |(k',y)::l,ents,0,h=>by
  obtain ⟨e,es',rfl,he,hr,hl⟩:=h
  exact ⟨{ e with key:=k,val:=v},es',by simp,rfl,hx,hl⟩
 |(k',y)::l,ents,j+1,h=>by
  obtain ⟨e,es',rfl,he,hr,hl⟩:=h
  exact ⟨e,_,by simp,he,hr,relMap_set hx j hl⟩
/-- A map's block is put anew. -/
theorem post_mapset {G:Ghost} {s:HS} {w:World} (h:SRel G s w) {b r:Nat} {o o':Obj} {x:Res} (hb:w.heap[b]? = some o) (hno:∀ cs t f,o≠.cells cs t f) (ro:G.role b=some r) (hr:r∈keys s)
  (hx:holds G { w with heap:=w.heap.setIfInBounds b o'} r x):Post s G w (hset s r x) G { w with heap:=w.heap.setIfInBounds b o'}:=by
 have hlt:b < w.heap.size:=(Array.getElem?_eq_some_iff.1 hb).1
 have get:∀ b',({ w with heap:=w.heap.setIfInBounds b o'} : World).heap[b']? = if b'=b then some o' else w.heap[b']?:=fun b'=>by
  by_cases e:b'=b
  ·subst e;simp [hlt]
  ·rw [if_neg e];simp [Ne.symm e]
 have hsz:({ w with heap:=w.heap.setIfInBounds b o'} : World).heap.size=w.heap.size:=by simp
 have hK:∀ off v,G.K b off≠some v:=fun off v e=>by
  have:=h.kw b off v e
  simp only [World.cell?,hb] at this
  cases o with
  |cells cs t f=>exact hno cs t f rfl
  |_=>simp at this
 refine ⟨⟨fun b' off v e=>?_,by rw [hset_keys];exact h.keys,fun q y hy=>?_,h.fresh,fun b' q e=>by rw [hsz];exact h.role b' q e⟩,⟨.refl G,by rw [hsz];exact Nat.le_refl _,fun b' _ hq=>⟨by rw [get,if_neg (fun e=>by subst e;exact hq r ro hr)],rfl,fun _=>rfl⟩,fun _ _ e _=>e,Nat.le_refl _,rfl,rfl,rfl,fun q h0 _ h1 h2 h3=>⟨h1,h2,h3⟩⟩,fun q hq=>by rw [hset_keys] at hq;exact .inl hq⟩
 ·have hne:b'≠b:=fun e'=>by subst e';exact hK off v e
  have:=h.kw b' off v e
  simp only [World.cell?,get,if_neg hne] at this ⊢
  exact this
 ·rcases hset_mem h.keys hy with ⟨rfl,rfl⟩|⟨hne,hm⟩
  ·exact hx
  ·have ho:=h.holds q y hm
   have other:∀ b',G.role b'=some q→b'≠b:=fun b' e e'=>by subst e';rw [ro] at e;cases e;exact hne rfl
   cases y with
   |cells cs t'=>
    obtain ⟨b',vs,e,ro',hh,hc,hk⟩:=ho
    exact ⟨b',vs,e,ro',by rw [get,if_neg (other b' ro')];exact hh,hc,hk⟩
   |map es=>
    obtain ⟨b',ents,cl,e,ro',hh,hc⟩:=ho
    exact ⟨b',ents,cl,e,ro',by rw [get,if_neg (other b' ro')];exact hh,hc⟩
   |tok n=>
    obtain ⟨tp,e,hn,hq⟩:=ho
    refine ⟨tp,e,hn,fun hlt=>?_⟩
    obtain ⟨ro',vs,t',hh,hce,hk⟩:=hq hlt
    exact ⟨ro',vs,t',by rw [get,if_neg (other tp.b ro')];exact hh,hce,hk⟩
   |void=>exact ho
   |loop L=>exact ho.move rfl (Ghost.Le.refl _).to0 (fun b' hr=>⟨by rw [get,if_neg (other b' hr)],hr,fun o=>rfl⟩)
   |row cs' sz' t''=>exact ho.move rfl (Ghost.Le.refl _).to0 (fun b' hr=>⟨by rw [get,if_neg (other b' hr)],hr,fun o=>rfl⟩)
theorem rel_map {G:Ghost} {r:Nat} {u:Value} (h:rel G (.map r) u):∃ b,G.om r=some b∧u = .map (some b):=by
 obtain ⟨h1,_⟩:=leaf_of h rfl
 simp only [relC] at h1
 obtain ⟨b,e,hb⟩:=h1
 exact ⟨b,e,by simpa using hb⟩
theorem makeMap_ok (c:Cx) {s:HS} {G:Ghost} {w:World} (hs:SRel G s w) (t:TypeId) (hint:Option Value) (hh:∀ v,hint=some v→∃ k n,v = .int k n) :
  ResOK c.P s G w ((do pure (Next.value (←Instr.makeMap t hint)):Sem Next).run c.P w) (hmakeMap c s t):=by
 unfold hmakeMap
 split
 ·rename_i e
  obtain ⟨i,u,h1,h2,_,_,_,_,h3,_⟩:=c.ty_ok t _ e
  obtain ⟨kt,et,hu⟩:∃ kt et,u = .map kt et:=by cases u<;>simp [shOK] at h3 ⊢
  subst hu
  have run:(Instr.makeMap t hint).run c.P w = .ok (.map (some w.heap.size)) (World.pushed w (.map #[] 0)):=by
   cases hint with
   |none=>simp [Instr.makeMap,Go.newObj,Sem.run,World.pushed]
   |some v=>
    obtain ⟨k,n,rfl⟩:=hh v rfl
    simp [Instr.makeMap,run_underlying h2,asInt,asIntOf,Go.newObj,Sem.run,World.pushed,Result.andThen]
  rintro K hK
  refine ⟨_,_,hK G.lim (fun hm=>by have:=hs.lt_key hm;omega),_,_,G.newObj w.heap.size,.inl (by rw [Sem.run_bind,run];rfl),rel_leaf (by simp only [relC];exact ⟨w.heap.size,by simp [Ghost.newObj],rfl⟩) rfl,post_newObj hs _ _ ⟨w.heap.size,#[],0,by simp [Ghost.newObj],by simp [Ghost.newObj],pushed_new w _,rfl⟩⟩
 ·trivial
theorem keySh_all {P:Program} {t:TypeId} {d:TyD} (h:TyOK P t d) {k:Value} (hk:keyShB d.sh k=true):∃ u,P.underlying t=some u∧IsKey u k∧∀ k',keyShB d.sh k'=true→IsKey u k':=by
 obtain ⟨u,h1,h2⟩:=keySh_ok h hk
 refine ⟨u,h1,h2,fun k' hk'=>?_⟩
 obtain ⟨u',h3,h4⟩:=keySh_ok h hk'
 rw [h1] at h3
 cases h3
 exact h4
theorem mapty_ok {c:Cx} {t:TypeId} {a b:Nat} {ag:Bool} {z:Value} {kt et:TypeId} (e:c.ty t=some ⟨a,b,ag,z,.map kt et⟩):c.P.underlying t=some (.map kt et):=by
 obtain ⟨i,u,h1,h2,_,_,_,_,h3,_⟩:=c.ty_ok t _ e
 cases u<;>simp [shOK] at h3
 obtain ⟨rfl,rfl⟩:=h3
 exact h2
theorem hmapRes_rel {G:Ghost} {ok:Bool} {k:Value} {z:HV} {es:List (Value × HV)} {v:Value} (h:rel G (mapV k z es) v):rel G (hmapRes ok k z es) (if ok then .tuple #[v,.bool (mapB k es)] else v):=by
 cases ok with
 |false=>exact h
 |true=>exact tup_rel (us:=[v,.bool (mapB k es)]) (by simp only [relVs_cons,relVs];exact ⟨_,_,rfl,h,_,_,rfl,rel_v G,rfl⟩)
theorem lookup_ok (c:Cx) {s:HS} {G:Ghost} {w:World} (hs:SRel G s w) (t:TypeId) {x i:HV} {u v:Value} (ok:Bool) (hx:rel G x u) (hi:rel G i v) :
  ResOK c.P s G w ((do pure (Next.value (←Instr.lookup t u v ok)):Sem Next).run c.P w) (hlookup c t x i ok):=by
 unfold hlookup
 split
 ·rename_i kt et e
  have ht:=mapty_ok e
  split
  ·rename_i k z hk hz
   obtain ⟨dk,hdk,hks,rfl⟩:=hkey_ok hk
   have:=rel_v_eq hi
   subst this
   obtain ⟨uk,hu1,hu2,hu3⟩:=keySh_all (c.ty_ok _ _ hdk) hks
   obtain ⟨de,hde,hzr⟩:=zero_ok c (G:=G) hz
   have hzz:=fun w=>(c.ty_ok _ _ hde).zero (w:=w)
   split
   ·have:=rel_v_eq hx
    subst this
    refine ⟨_,w,G,.inl ?_,hmapRes_rel (k:=v) (es:=[]) hzr,.refl hs⟩
    cases ok<;>simp [Instr.lookup,run_underlying ht,run_checkKey hu1 hu2,run_findKey (l:=[]) hu1 rfl,hzz,Result.andThen,mapB]
   ·rename_i r
    obtain ⟨b,ho,rfl⟩:=rel_map hx
    intro rx hg
    cases rx with
    |map es=>
     simp only []
     split
     ·rename_i hkb
      obtain ⟨b',ents,cl,ho',ro,hb,hm⟩:=hs.holds r _ (hget_mem hg)
      rw [ho] at ho'
      cases ho'
      have hkb':keysShB dk.sh es=true:=by simpa [hkeysB,hdk] using hkb
      rcases map_find hks hu2 hu3 z hkb' hm with ⟨a1,a2,a3,_⟩|⟨j,e1,a1,a2,a3,a4,a5,_⟩
      ·refine ⟨_,w,G,.inl ?_,hmapRes_rel (k:=v) (es:=es) (v:=de.zero) (by rw [a2];exact hzr),.refl hs⟩
       cases ok<;>simp [Instr.lookup,run_underlying ht,Go.MapKept.run_getObj_map hb,run_checkKey hu1 hu2,run_findKey hu1 (a3 0),hzz,Result.andThen,a1]
      ·refine ⟨_,w,G,.inl ?_,hmapRes_rel (k:=v) (es:=es) a5,.refl hs⟩
       cases ok<;>simp [Instr.lookup,run_underlying ht,Go.MapKept.run_getObj_map hb,run_checkKey hu1 hu2,run_findKey hu1 (a4 0),Result.andThen,a1]
     ·trivial
    |cells cs t'=>trivial
    |tok n=>trivial
    |void=>trivial
    |loop L=>trivial
    |row cs' sz' t''=>trivial
   ·trivial
  ·trivial
 ·trivial
theorem mapPut_ok (c:Cx) {s:HS} {G:Ghost} {w:World} (hs:SRel G s w) (t:TypeId) {m k x:HV} {um uk ux:Value} (hm:rel G m um) (hk0:rel G k uk) (hx:rel G x ux) :
  ResOK c.P s G w ((do Instr.mapUpdate t um uk ux;pure Next.skip:Sem Next).run c.P w) (hmapPut c s t m k x):=by
 unfold hmapPut
 split
 ·rename_i kt et e
  have ht:=mapty_ok e
  split
  ·rename_i key r hk
   obtain ⟨dk,hdk,hks,rfl⟩:=hkey_ok hk
   have:=rel_v_eq hk0
   subst this
   obtain ⟨du,hu1,hu2,hu3⟩:=keySh_all (c.ty_ok _ _ hdk) hks
   obtain ⟨b,ho,rfl⟩:=rel_map hm
   intro rx hg
   cases rx with
   |map es=>
    simp only []
    split
    ·rename_i hkb
     have hmem:=hget_mem hg
     obtain ⟨b',ents,cl,ho',ro,hb,hrm⟩:=hs.holds r _ hmem
     rw [ho] at ho'
     cases ho'
     have hkb':keysShB dk.sh es=true:=by simpa [hkeysB,hdk] using hkb
     have hlt:b < w.heap.size:=(Array.getElem?_eq_some_iff.1 hb).1
     rintro K hK
     rcases map_find hks hu2 hu3 x hkb' hrm with ⟨_,_,a3,a4⟩|⟨j,e1,_,a2,a3,a4,_,a6⟩
     ·refine ⟨_,_,hK,undef,{ w with heap:=w.heap.setIfInBounds b (.map (ents.push ⟨uk,ux,cl⟩) (cl+1))},G,.inr ⟨?_,rfl⟩,⟨rfl,by simp only [relC];exact ⟨#[],rfl,by simp [relVs]⟩⟩,post_mapset hs hb (by simp) ro (List.mem_map.2 ⟨_,hmem,rfl⟩) ⟨b,_,_,ho,ro,by simp [hlt];exact ⟨rfl,rfl⟩,?_⟩⟩
      ·simp [Instr.mapUpdate,run_underlying ht,Go.MapKept.run_getObj_map hb,run_checkKey hu1 hu2,run_findKey hu1 (a3 0),run_setObj_map _ hb,Result.andThen]
      ·rw [a4,Array.toList_push]
       exact relMap_push hx hrm
     ·refine ⟨_,_,hK,undef,{ w with heap:=w.heap.setIfInBounds b (.map (ents.modify j fun e=>{ e with key:=uk,val:=ux}) cl)},G,.inr ⟨?_,rfl⟩,⟨rfl,by simp only [relC];exact ⟨#[],rfl,by simp [relVs]⟩⟩,post_mapset hs hb (by simp) ro (List.mem_map.2 ⟨_,hmem,rfl⟩) ⟨b,_,_,ho,ro,by simp [hlt];exact ⟨rfl,rfl⟩,?_⟩⟩
      ·have a2':ents[j]? = some e1:=by simpa using a2
       simp [Instr.mapUpdate,run_underlying ht,Go.MapKept.run_getObj_map hb,run_checkKey hu1 hu2,run_findKey hu1 (a4 0),a2',a3,run_keyThatStays hu2,run_setObj_map _ hb,Result.andThen]
      ·rw [a6,Array.toList_modify]
       exact relMap_set hx j hrm
    ·trivial
   |cells cs t'=>trivial
   |tok n=>trivial
   |void=>trivial
   |loop L=>trivial
   |row cs' sz' t''=>trivial
  ·trivial
 ·trivial
end
end Go.Proofs.Hk

namespace Go.Proofs.Hk
noncomputable section
open Go
theorem ifaceNil_ok (c:Cx) {s:HS} {G:Ghost} {w:World} (hs:SRel G s w) (op:BinOp) (t:TypeId) (xo:Operand) {x:HV} {u:Value} (hx:rel G x u) :
  ResOK c.P s G w ((do pure (Next.value (←(do eqGuard op t xo (.const .nilIface) u .nilIface;binOp op t u .nilIface))):Sem Next).run c.P w) (hifaceNil c op t x):=by
 unfold hifaceNil
 split
 ·rename_i e
  obtain ⟨i,ud,_,hud,_,_,_,_,hsh,_⟩:=c.ty_ok _ _ e
  obtain ⟨ms,rfl⟩:∃ ms,ud = .interface ms:=by cases ud<;>simp [shOK] at hsh ⊢
  have key:∀ b:Bool,(Op.equalIn 10000 t u .nilIface).run c.P w = .ok b w→(eqGuard op t xo (.const .nilIface) u .nilIface).run c.P w = .ok () w→ResOK c.P s G w ((do pure (Next.value (←(do eqGuard op t xo (.const .nilIface) u .nilIface;binOp op t u .nilIface))):Sem Next).run c.P w) (hifaceEq op b):=fun b h1 h2=>by
   unfold hifaceEq
   have hb:∀ o,(o = .eql∨o = .neq)→(binOp o t u .nilIface).run c.P w = .ok (.bool (if o = .eql then b else !b)) w:=fun o ho=>by
    rcases ho with rfl|rfl<;>(cases u<;>simp_all [binOp,Op.equal,Op.maxDepth])
   split
   ·refine ⟨_,w,G,.inl ?_,rel_v G,.refl hs⟩
    simp only [Sem.run_bind,h2,Result.andThen_ok,hb .eql (.inl rfl)]
    rfl
   ·refine ⟨_,w,G,.inl ?_,rel_v G,.refl hs⟩
    simp only [Sem.run_bind,h2,Result.andThen_ok,hb .neq (.inr rfl)]
    rfl
   ·trivial
  split
  ·have:=rel_v_eq hx
   subst this
   refine key true ?_ ?_
   ·unfold Op.equalIn
    simp [run_underlying hud]
   ·cases op<;>simp [eqGuard]
  ·obtain ⟨v,rfl,_⟩:=rel_iface hx
   refine key false ?_ ?_
   ·unfold Op.equalIn
    simp [run_underlying hud]
   ·cases op<;>simp [eqGuard]
  ·trivial
 ·trivial
theorem builtin_ok (c:Cx) {s:HS} {G:Ghost} {w:World} (hs:SRel G s w) (b:Builtin) (ts:Array TypeId) (ty:TypeId) (consts:Array Bool) {xs:List HV} {vs:List Value} (hx:relVs G xs vs) :
  ResOK c.P s G w ((builtin b ts ty consts vs.toArray).run c.P w) (hbuiltin c s b ts.toList xs):=by
 unfold hbuiltin
 split
 ·rename_i t x e
  have e:ts = #[t]:=by rw [←Array.toArray_toList (xs:=ts),e]
  subst e
  simp only [relVs_cons] at hx
  obtain ⟨u,us,rfl,h1,h2⟩:=hx
  simp only [relVs] at h2
  subst h2
  exact len_ok c hs t h1 ty
 ·rename_i t u x y e
  have e:ts = #[t,u]:=by rw [←Array.toArray_toList (xs:=ts),e]
  subst e
  simp only [relVs_cons] at hx
  obtain ⟨p,us,rfl,h1,q,us',rfl,h2,h3⟩:=hx
  simp only [relVs] at h3
  subst h3
  exact append_ok c hs t u h1 h2 ty
 ·rename_i k a k' b'
  simp only [relVs_cons] at hx
  obtain ⟨p,us,rfl,h1,q,us',rfl,h2,h3⟩:=hx
  simp only [relVs] at h3
  subst h3
  have e1:=rel_v_eq h1
  have e2:=rel_v_eq h2
  subst e1 e2
  split
  ·rename_i hk
   have hk:=kindEq_eq hk
   subst hk
   exact ⟨_,w,G,.inl (by simp [builtin,Builtin.min_,Builtin.min2]),rel_v G,.refl hs⟩
  ·trivial
 ·rename_i k a k' b'
  simp only [relVs_cons] at hx
  obtain ⟨p,us,rfl,h1,q,us',rfl,h2,h3⟩:=hx
  simp only [relVs] at h3
  subst h3
  have e1:=rel_v_eq h1
  have e2:=rel_v_eq h2
  subst e1 e2
  split
  ·rename_i hk
   have hk:=kindEq_eq hk
   subst hk
   exact ⟨_,w,G,.inl (by simp [builtin,Builtin.max_,Builtin.max2]),rel_v G,.refl hs⟩
  ·trivial
 ·trivial
theorem mapArr {α β:Type} (f:α→β) (xs:Array α):(List.map f xs.toList).toArray=xs.map f:=by
 apply Array.toList_inj.1;simp
theorem hop_ok (c:Cx) {s:HS} {G:Ghost} {w:World} {n:Nat} {a:Fr} {ra:Act} (hs:SRel G s w) (hf:FRel G n a ra) (o:Oper) :
  ResOK c.P s G w ((execOp ra.eval o).run c.P w) (hop c o.op a s):=by
 obtain ⟨dst,op,type,pos,after,guard⟩:=o
 have pairs:∀ ps:Array (Nat × Operand),(ps.map fun (i,x)=>(i,ra.eval x))=((ps.toList.map (·.1)).zip (ps.toList.map fun p=>ra.eval p.2)).toArray:=fun ps=>by
  apply Array.toList_inj.1
  simp only [Array.toList_map]
  induction ps.toList with
  |nil=>rfl
  |cons p l ih=>simp [ih]
 have plen:∀ (ps:Array (Nat × Operand)) {vs:List HV},relVs G vs ((ps.toList.map (·.2)).map ra.eval)→(ps.toList.map (·.1)).length=vs.length∧relVs G vs (ps.toList.map fun p=>ra.eval p.2):=fun ps {vs} h=>by
  have:=relVs_length h
  simp only [List.map_map] at h
  exact ⟨by simpa using this,h⟩
 cases op<;>simp only [hop]<;>try trivial
 case move x=>exact arg_ok hf fun v hv=>gives_pure hs hv
 case assign x=>exact arg_ok hf fun v hv=>gives_pure hs hv
 case pick b x y=>
  refine arg_ok hf fun v hv=>?_
  split
  ·rename_i cb
   have hb:=rel_v_eq hv
   have run:∀ u v,ra.eval x=u→ra.eval y=v→(execOp ra.eval ⟨dst,.pick b x y,type,pos,after,guard⟩).run c.P w = .ok (.value (if cb then u else v)) w:=fun u v h1 h2=>by
    simp [execOp,hb,asBool,h1,h2]
   split
   ·rename_i gx p gy q hx hy
    have kx:=ev_ok hf hx
    have ky:=ev_ok hf hy
    have fin:(cb=true→ra.eval x = .bool p)→(cb=false→ra.eval y = .bool q)→Gives s G w ((execOp ra.eval ⟨dst,.pick b x y,type,pos,after,guard⟩).run c.P w) (.v (.bool (bif cb then p else q))) s:=fun h1 h2=>by
     refine ⟨_,w,G,.inl (run _ _ rfl rfl),?_,.refl hs⟩
     cases cb with
     |true=>
      simp only [if_true,h1 rfl,cond_true]
      exact rel_v G
     |false=>
      simp only [Bool.false_eq_true,if_false,h2 rfl,cond_false]
      exact rel_v G
    cases gx with
    |sure=>
     cases gy with
     |sure=>
      have base:=fin (fun _=>rel_v_eq kx) (fun _=>rel_v_eq ky)
      simp only []
      split
      ·rename_i ht
       have hp:p=true:=by
        have hx1:=isTrue_eq ht
        subst hx1
        simp only [ev,Option.some.injEq,Prod.mk.injEq,HV.v.injEq,Value.bool.injEq] at hx
        exact hx.2.symm
       rw [hp] at base
       cases cb<;>exact base
      ·split
       ·rename_i ht
        have hq:q=false:=by
         have hy1:=isFalse_eq ht
         subst hy1
         simp only [ev,Option.some.injEq,Prod.mk.injEq,HV.v.injEq,Value.bool.injEq] at hy
         exact hy.2.symm
        rw [hq] at base
        cases cb<;>exact base
       ·exact base
     |cond g=>
      simp only []
      split
      ·rename_i ht
       have hp:p=true:=by
        have hx1:=isTrue_eq ht
        subst hx1
        simp only [ev,Option.some.injEq,Prod.mk.injEq,HV.v.injEq,Value.bool.injEq] at hx
        exact hx.2.symm
       intro h
       have:=fin (fun _=>rel_v_eq kx) (fun e=>rel_v_eq (ky.1 (h e)))
       rw [hp] at this
       cases cb<;>exact this
      ·exact fun h=>fin (fun _=>rel_v_eq kx) (fun e=>rel_v_eq (ky.1 (h e)))
    |cond g'=>
     cases gy with
     |sure=>
      simp only []
      split
      ·rename_i ht
       have hq:q=false:=by
        have hy1:=isFalse_eq ht
        subst hy1
        simp only [ev,Option.some.injEq,Prod.mk.injEq,HV.v.injEq,Value.bool.injEq] at hy
        exact hy.2.symm
       intro h
       have:=fin (fun e=>rel_v_eq (kx.1 (h e))) (fun _=>rel_v_eq ky)
       rw [hq] at this
       cases cb<;>exact this
      ·exact fun h=>fin (fun e=>rel_v_eq (kx.1 (h e))) (fun _=>rel_v_eq ky)
     |cond g=>exact fun h=>fin (fun e=>rel_v_eq (kx.1 (h.1 e))) (fun e=>rel_v_eq (ky.1 (h.2 e)))
   ·rename_i gx x' gy y' hnb hx hy
    rintro K ⟨h1,h2⟩
    have kx:=ev_ok hf hx
    have ky:=ev_ok hf hy
    cases cb with
    |true=>
     have h1:=h1 rfl
     cases gx with
     |sure=>exact ⟨x',s,h1,_,w,G,.inl (run _ _ rfl rfl),kx,.refl hs⟩
     |cond g=>exact ⟨x',s,h1.2,_,w,G,.inl (run _ _ rfl rfl),kx.1 h1.1,.refl hs⟩
    |false=>
     have h2:=h2 rfl
     cases gy with
     |sure=>exact ⟨y',s,h2,_,w,G,.inl (run _ _ rfl rfl),ky,.refl hs⟩
     |cond g=>exact ⟨y',s,h2.2,_,w,G,.inl (run _ _ rfl rfl),ky.1 h2.1,.refl hs⟩
   ·trivial
  ·trivial
 case alloc t=>
  split
  ·rename_i z hz
   obtain ⟨d,hd,hr⟩:=zero_ok c (G:=G) hz
   have ht:=c.ty_ok t d hd
   have:=new_ok c.P hs t hr
   have e:(execOp ra.eval ⟨dst,.alloc t,type,pos,after,guard⟩).run c.P w=(do pure (Next.value (←(do pure (Value.pointer (some (←newVar t d.zero)))))):Sem Next).run c.P w:=by
    simp [execOp,Instr.alloc,ht.zero]
   rw [e]
   exact this
  ·trivial
 case box t x=>exact arg_ok hf fun v hv=>new_ok c.P hs t hv
 case build t ps=>
  refine argsM_ok hf fun vs hvs=>?_
  obtain ⟨h1,h2⟩:=plen ps hvs
  have:=build_ok c hs t h1 h2
  rw [←pairs ps] at this
  exact this
 case buildSlice t m ps=>
  refine argsM_ok hf fun vs hvs=>?_
  obtain ⟨h1,h2⟩:=plen ps hvs
  have:=buildSlice_ok c hs t m h1 h2
  rw [←pairs ps] at this
  exact this
 case load t p=>exact arg_ok hf fun v hv=>load_ok c hs t hv
 case store t p x=>exact arg_ok hf fun v hv=>arg_ok hf fun v' hv'=>store_ok c hs t hv hv'
 case nilCheck x=>
  refine arg_ok hf fun v hv=>?_
  split
  ·obtain ⟨b,hb,e⟩:=rel_ptr hv
   exact ⟨_,w,G,.inl (by simp [execOp,e]),e ▸ hv,.refl hs⟩
  ·obtain ⟨b,o,e⟩:=rel_cptr hv
   exact ⟨_,w,G,.inl (by simp [execOp,e]),e ▸ hv,.refl hs⟩
  ·obtain ⟨a',b,e,_⟩:=rel_fn hv
   exact ⟨_,w,G,.inl (by simp [execOp,e]),e ▸ hv,.refl hs⟩
  ·trivial
 case binOp op t x y yt=>
  split
  ·rename_i hy
   have hy:y = .const .nilIface:=by
    unfold isNilC at hy
    split at hy
    ·rfl
    ·cases hy
   subst hy
   exact arg_ok hf fun u hu=>ifaceNil_ok c hs op t x hu
  ·exact arg_ok hf fun u hu=>arg_ok hf fun v hv=>binT_ok c s G w hs op t x y u v _ _ hu hv
 case unOp op t x=>
  refine arg_ok hf fun v hv=>?_
  split
  ·have e:=rel_v_eq hv
   exact ⟨_,w,G,.inl (by simp [execOp,e,Op.unary]),rel_v G,.refl hs⟩
  ·have e:=rel_v_eq hv
   exact ⟨_,w,G,.inl (by simp [execOp,e,Op.unary,Op.intArith]),rel_v G,.refl hs⟩
  ·trivial
 case convert src dst x=>exact arg_ok hf fun v hv=>convert_ok c hs src dst hv
 case makeFunc fn fi ca=>
  refine argsM_ok hf fun vs hvs=>argsM_ok hf fun vs' hvs'=>?_
  exact ⟨.func fn (fi.map ra.eval) (ca.map ra.eval),w,G,.inl (by simp [execOp,Instr.makeFunc]),by have:=fn_rel (f:=fn) hvs hvs';rwa [mapArr,mapArr] at this,.refl hs⟩
 case makeSlice t x y=>exact arg_ok hf fun v hv=>arg_ok hf fun v' hv'=>makeSlice_ok c hs t _ hv hv'
 case slice t x lo hi mx=>exact arg_ok hf fun v hv=>argO_ok hf fun v1 h1=>argO_ok hf fun v2 h2=>argO_ok hf fun v3 h3=>slice_ok c hs t hv h1 h2 h3
 case fieldAddr t x f=>exact arg_ok hf fun v hv=>fieldAddr_ok c hs t f hv
 case field t x f=>exact arg_ok hf fun v hv=>field_ok c hs t f hv
 case indexAddr t x i=>exact arg_ok hf fun v hv=>arg_ok hf fun v' hv'=>indexAddr_ok c hs t hv hv'
 case index t x i=>exact arg_ok hf fun v hv=>arg_ok hf fun v' hv'=>index_ok c hs t hv hv'
 case extract x i=>
  refine arg_ok hf fun v hv=>?_
  split
  ·rename_i l
   split
   ·rename_i y hy
    obtain ⟨us,e,h⟩:=rel_tup_inv hv
    obtain ⟨u,hu,hr⟩:=relVs_get h i y hy
    have hu':us[i]? = some u:=by simpa using hu
    exact ⟨_,w,G,.inl (by simp [execOp,e,Instr.extract,hu']),hr,.refl hs⟩
   ·trivial
  ·trivial
 case makeInterface t x=>
  refine arg_ok hf fun v hv=>?_
  split
  ·trivial
  ·trivial
  ·rename_i d h0 h1 h2
   have ht:=c.ty_ok t d h2
   obtain ⟨u,hu,hsh,_⟩:=ht.und (w:=w)
   refine ⟨_,w,G,.inl ?_,iface_rel hv,.refl hs⟩
   have hni:∀ m,u≠.interface m:=fun m e=>by
    subst e
    obtain ⟨d1,d2,d3,d4,d5⟩:=d
    cases d5<;>simp only [shOK] at hsh
    ·exact h0 _ _ _ _ rfl
    ·exact h1 _ _ _ _ rfl
   simp only [execOp,Instr.makeInterface,Sem.run_bind,hu,Result.andThen_ok]
   cases u<;>first|rfl|exact absurd rfl (hni _)
  ·trivial
 case panic x=>
  refine arg_ok hf fun v hv=>?_
  split
  ·rename_i t y
   intro _
   obtain ⟨u,e,hr⟩:=rel_iface hv
   exact ⟨_,by simp [execOp,e,Instr.panic,goPanic,Sem.run],iface_rel hr⟩
  ·trivial
 case makeMap t r=>
  cases r with
  |none=>
   simp only [hop]
   exact makeMap_ok c hs t none (by simp)
  |some x=>
   simp only [hop]
   refine arg_ok hf fun v hv=>?_
   split
   ·rename_i k n
    have e:=rel_v_eq hv
    have:=makeMap_ok c hs t (some (.int k n)) (fun v h=>by cases h;exact ⟨k,n,rfl⟩)
    simpa [execOp,e] using this
   ·trivial
 case lookup t x i ok=>exact arg_ok hf fun v hv=>arg_ok hf fun v' hv'=>lookup_ok c hs t ok hv hv'
 case insert t m k x=>exact arg_ok hf fun v hv=>arg_ok hf fun v' hv'=>arg_ok hf fun v'' hv''=>mapPut_ok c hs t hv hv' hv''
 case mapUpdate t m k x=>exact arg_ok hf fun v hv=>arg_ok hf fun v' hv'=>arg_ok hf fun v'' hv''=>mapPut_ok c hs t hv hv' hv''
 case call cl=>
  obtain ⟨callee,xs,ts⟩:=cl
  cases callee with
  |value f=>
   refine arg_ok hf fun v hv=>argsM_ok hf fun vs hvs=>?_
   have:=call_ok c (s:=s) (w:=w) hv hvs
   rw [mapArr] at this
   simpa [execOp,resolve] using this
  |invoke r m=>trivial
  |builtin b=>
   refine argsM_ok hf fun vs hvs=>?_
   simp only [execOp,resolve,invoke,pure_bind]
   rw [←mapArr ra.eval xs]
   exact builtin_ok c hs b ts type _ hvs
end
end Go.Proofs.Hk

namespace Go.Proofs.Hk
noncomputable section
open Go
theorem tagRel.mono {G G':Ghost} (le:G.Le G') {g:Tag} {x:HV} {u:Value} (h:tagRel G g x u):tagRel G' g x u:=by
 cases g with
 |sure=>exact rel.mono le h
 |cond b=>exact ⟨fun e=>(h.1 e).mono le,h.2⟩
theorem FRel.mono {G G':Ghost} (le:G.Le G') {n:Nat} {a:Fr} {ra:Act} (h:FRel G n a ra):FRel G' n a ra:=
 ⟨h.size,h.defers.trans le.df.symm,fun t g x e=>⟨(h.slots t g x e).1,(h.slots t g x e).2.mono le⟩⟩
theorem FRel.put {G:Ghost} {n:Nat} {a a':Fr} {ra:Act} (h:FRel G n a ra) {dst:Option Tmp} {g:Tag} {x:HV} {u:Value} (e:hput n dst g x a=some a') (hu:tagRel G g x u):FRel G n a' (ra.put dst u):=by
 unfold hput at e
 split at e
 ·cases e;exact h
 ·rename_i d
  split at e
  ·rename_i hd
   cases e
   have hd:d < n:=by simpa [Nat.blt_eq] using hd
   refine ⟨by simp [Act.put,h.size],h.defers,fun t g' x' e'=>?_⟩
   simp only [Fr.get] at e'
   split at e'
   ·rename_i ht
    have ht:=Nat.eq_of_beq_eq_true ht
    subst ht
    cases e'
    refine ⟨hd,?_⟩
    have:((ra.put (some d) u).tmps).getD d undef=u:=by
     simp only [Act.put,Array.getD_eq_getD_getElem?]
     rw [Array.getElem?_setIfInBounds_self_of_lt (by rw [h.size];exact hd)]
     rfl
    rw [this];exact hu
   ·rename_i ht
    have hne:d≠t:=fun e=>by subst e;simp at ht
    have:=h.slots t g' x' e'
    refine ⟨this.1,?_⟩
    have e2:((ra.put (some d) u).tmps).getD t undef=ra.tmps.getD t undef:=by
     simp only [Act.put,Array.getD_eq_getD_getElem?]
     rw [Array.getElem?_setIfInBounds_ne hne]
    rw [e2];exact this.2
  ·cases e
/-- Forgetting. -/
def Fr.Sub (a b:Fr):Prop:=∀ t g x,a.get t=some (g,x)→b.get t=some (g,x)
theorem FRel.sub {G:Ghost} {n:Nat} {a b:Fr} {ra:Act} (h:FRel G n b ra) (hs:a.Sub b):FRel G n a ra:=
 ⟨h.size,h.defers,fun t g x e=>h.slots t g x (hs t g x e)⟩
def Lift (n:Nat) (s0:HS) (G0:Ghost) (w0:World) (Q:HExit→Fr→HS→Prop):Exit→Act→World→Prop:=
 fun e ra w=>∃ he a s G,Q he a s∧exitRel G he e∧FRel G n a ra∧Post s0 G0 w0 s G w
theorem SemWp.lift {P:Program} {n:Nat} {code:Code} {Q:HExit→Fr→HS→Prop} {a:Fr} {s:HS} (h:SemWp P n code Q a s) {s0:HS} {G0:Ghost} {w0:World} (h0:SRel G0 s0 w0) {G:Ghost} {w:World} {ra:Act}
  (hp:Post s0 G0 w0 s G w) (hf:FRel G n a ra):wpB P code (Lift n s0 G0 w0 Q) ra w:=
 wpB_mono (h.out G w ra hp.srel hf) fun _ _ _ ⟨he,a',s',G',hq,hr,hf',hp'⟩=>⟨he,a',s',G',hq,hr,hf',hp.trans h0 hp'⟩
theorem SemWp.mono {P:Program} {n:Nat} {code:Code} {Q Q':HExit→Fr→HS→Prop} {a:Fr} {s:HS} (h:SemWp P n code Q a s) (hq:∀ e a s,Q e a s→Q' e a s):SemWp P n code Q' a s:=
 ⟨fun G w ra hs hf=>wpB_mono (h.out G w ra hs hf) fun _ _ _ ⟨he,a',s',G',q,hr,hf',hp'⟩=>⟨he,a',s',G',hq _ _ _ q,hr,hf',hp'⟩⟩
theorem SemWp.forget {P:Program} {n:Nat} {code:Code} {Q:HExit→Fr→HS→Prop} {a b:Fr} {s:HS} (h:SemWp P n code Q a s) (hs:a.Sub b):SemWp P n code Q b s:=
 ⟨fun G w ra hr hf=>h.out G w ra hr (hf.sub hs)⟩
theorem SemWp.done {P:Program} {n:Nat} {code:Code} {Q:HExit→Fr→HS→Prop} {a:Fr} {s:HS} {he:HExit} {e:Exit} (hw:∀ (R:Exit→Act→World→Prop) (ra:Act) (w:World),R e ra w→wpB P code R ra w) (hr:∀ G,exitRel G he e) (h:Q he a s):SemWp P n code Q a s:=
 ⟨fun G w ra hs hf=>hw _ ra w ⟨he,a,s,G,h,hr G,hf,.refl hs⟩⟩
theorem SemWp.seq {P:Program} {n:Nat} {x y:Code} {Q:HExit→Fr→HS→Prop} {a:Fr} {s:HS} (h:SemWp P n x (fun e a s=>match e with|.normal=>SemWp P n y Q a s|e=>Q e a s) a s):SemWp P n (.seq x y) Q a s:=
 ⟨fun G w ra hs hf=>wpB_seq (wpB_mono (h.out G w ra hs hf) fun e ra' w' ⟨he,a',s',G',q,hr,hf',hp⟩=>by
  cases he with
  |normal=>
   cases e<;>first|exact hr.elim|skip
   exact q.lift hs hp hf'
  |exit i=>cases e<;>first|exact hr.elim|exact ⟨.exit i,a',s',G',q,hr,hf',hp⟩
  |ret=>cases e<;>first|exact hr.elim|exact ⟨.ret,a',s',G',q,hr,hf',hp⟩
  |pan x=>cases e<;>first|exact hr.elim|exact ⟨.pan x,a',s',G',q,hr,hf',hp⟩)⟩
theorem SemWp.block {P:Program} {n:Nat} {id:Nat} {b:Code} {Q:HExit→Fr→HS→Prop} {a:Fr} {s:HS} (h:SemWp P n b (hinBlock id Q) a s):SemWp P n (.block id b) Q a s:=
 ⟨fun G w ra hs hf=>wpB_block (wpB_mono (h.out G w ra hs hf) fun e ra' w' ⟨he,a',s',G',q,hr,hf',hp⟩=>by
  cases he with
  |normal=>cases e<;>first|exact hr.elim|exact ⟨.normal,a',s',G',q,hr,hf',hp⟩
  |exit i=>
   cases e<;>first|exact hr.elim|skip
   have hij:i=_:=hr
   subst hij
   simp only [hinBlock] at q
   simp only [Exit.inBlock]
   split at q
   ·rename_i hb
    rw [if_pos (Nat.eq_of_beq_eq_true hb)]
    exact ⟨.normal,a',s',G',q,trivial,hf',hp⟩
   ·rename_i hb
    rw [if_neg (fun e=>by subst e;simp at hb)]
    exact ⟨.exit i,a',s',G',q,rfl,hf',hp⟩
  |ret=>cases e<;>first|exact hr.elim|exact ⟨.ret,a',s',G',q,hr,hf',hp⟩
  |pan x=>cases e<;>first|exact hr.elim|exact ⟨.pan x,a',s',G',q,hr,hf',hp⟩)⟩
/-- A loop, by what holds at every round's head and a measure. -/
theorem SemWp.loop {P:Program} {n:Nat} {b:Code} {Q:HExit→Fr→HS→Prop} {a:Fr} {s:HS} (I:Nat→Fr→HS→Prop) (m0:Nat) (h0:I m0 a s)
  (round:∀ m a s,I m a s→SemWp P n b (fun e a' s'=>match e with|.normal=>∃ m',m' < m∧I m' a' s'|e=>Q e a' s') a s):SemWp P n (.loop b) Q a s:=
 ⟨fun G w ra hs hf=>by
  refine wpB_loop (fun m ra1 w1=>∃ a1 s1 G1,I m a1 s1∧FRel G1 n a1 ra1∧Post s G w s1 G1 w1) m0 ⟨a,s,G,h0,hf,.refl hs⟩ ?_
  rintro m ra1 w1 ⟨a1,s1,G1,hI,hf1,hp1⟩
  refine wpB_mono ((round m a1 s1 hI).lift hs hp1 hf1) fun e ra2 w2 ⟨he,a2,s2,G2,q,hr,hf2,hp2⟩=>?_
  cases he with
  |normal=>
   cases e<;>first|exact hr.elim|skip
   obtain ⟨m',hlt,hI'⟩:=q
   exact ⟨m',hlt,a2,s2,G2,hI',hf2,hp2⟩
  |exit i=>cases e<;>first|exact hr.elim|exact ⟨.exit i,a2,s2,G2,q,hr,hf2,hp2⟩
  |ret=>cases e<;>first|exact hr.elim|exact ⟨.ret,a2,s2,G2,q,hr,hf2,hp2⟩
  |pan x=>cases e<;>first|exact hr.elim|exact ⟨.pan x,a2,s2,G2,q,hr,hf2,hp2⟩⟩
theorem active_ok {all:Array Oper} {a:Fr} {o:Oper} {tg:Tag} {G:Ghost} {n:Nat} {ra:Act} (hf:FRel G n a ra) (h:active all a o=some tg) :
  Region.wanted o (yielded all ra.tmps)=(match tg with|.sure=>true|.cond b=>b):=by
 unfold active at h
 unfold Region.wanted
 split at h
 ·rename_i hg;cases h;rw [hg]
 ·rename_i j want hg
  rw [hg]
  split at h
  ·cases h
  ·rename_i oj hj
   split at h
   ·cases h
   ·rename_i d hd
    have hy:∀ v,ra.tmps.getD d undef=v→d < n→yielded all ra.tmps j=(match v with|.bool b=>some b|_=>none):=fun v hv hdn=>by
     have:ra.tmps[d]? = some v:=by
      rw [←hv,Array.getD_eq_getD_getElem?,Array.getElem?_eq_getElem (by rw [hf.size];exact hdn)]
      rfl
     simp only [yielded,hj,hd,Option.bind_some,this]
     cases v<;>rfl
    split at h
    ·rename_i b he
     obtain ⟨hdn,hr⟩:=hf.slots d _ _ he
     have:=rel_v_eq hr
     simp only []
     rw [hy _ this hdn]
     cases want<;>simp only [Option.some.injEq] at h<;>subst h<;>cases b<;>rfl
    ·rename_i g b he
     obtain ⟨hdn,hr1,hr2⟩:=hf.slots d _ _ he
     simp only []
     cases g with
     |true=>
      have:=rel_v_eq (hr1 rfl)
      rw [hy _ this hdn]
      cases want<;>simp only [Option.some.injEq] at h<;>subst h<;>cases b<;>rfl
     |false=>
      rw [hy _ (hr2 rfl) hdn]
      cases want<;>simp only [Option.some.injEq] at h<;>subst h<;>rfl
    ·cases h
theorem upon_gives {P:Program} {o:Oper} {ra:Act} {next:Act→World→Prop} {QR:Exit→Act→World→Prop} {r:Result Next} {u:Value} {w':World} (hy:Yields r u w') (h:next (ra.put o.dst u) w'):Oper.uponY P o ra next QR r:=by
 rcases hy with rfl|⟨rfl,rfl⟩
 ·exact h
 ·exact h
theorem opsWp_ok (c:Cx) (n:Nat) (all:Array Oper) (Q:HExit→Fr→HS→Prop) {s0:HS} {G0:Ghost} {w0:World} (h0:SRel G0 s0 w0) :
  ∀ (l:List Oper) (k:Nat),all.toList.drop k=l→∀ (a:Fr) (s:HS) (G:Ghost) (w:World) (ra:Act),opsWp c n all Q l a s→Post s0 G0 w0 s G w→FRel G n a ra→
   wpOpsY c.P all (Lift n s0 G0 w0 Q) (List.range' k l.length) ra w:=by
 intro l
 induction l with
 |nil=>intro k _ a s G w ra h hp hf;exact ⟨.normal,a,s,G,h,trivial,hf,hp⟩
 |cons o rest ih=>
  intro k hk a s G w ra h hp hf
  have hko:all[k]? = some o:=by
   have:(all.toList.drop k)[0]? = some o:=by rw [hk];rfl
   rw [List.getElem?_drop] at this
   simpa using this
  have hrest:all.toList.drop (k+1)=rest:=by rw [←List.drop_drop,hk];rfl
  simp only [List.length_cons,List.range'_succ,wpOpsY,hko]
  have next:∀ {g:Tag} {x:HV} {s':HS} {G':Ghost} {w':World} {u:Value},Post s G w s' G' w'→tagRel G' g x u→(match hput n o.dst g x a with|none=>False|some a'=>opsWp c n all Q rest a' s')→wpOpsY c.P all (Lift n s0 G0 w0 Q) (List.range' (k+1) rest.length) (ra.put o.dst u) w':=by
   intro g x s' G' w' u hp' hu hm
   split at hm
   ·exact hm.elim
   ·rename_i a' ha
    exact ih (k+1) hrest a' s' G' w' _ hm (hp.trans h0 hp') ((hf.mono hp'.ext.le).put ha hu)
  have off:(match hput n o.dst (.cond false) (.v undef) a with|none=>False|some a'=>opsWp c n all Q rest a' s)→wpOpsY c.P all (Lift n s0 G0 w0 Q) (List.range' (k+1) rest.length) (ra.put o.dst undef) w:=fun hm=>
   next (g:=.cond false) (.refl hp.srel) ⟨(fun e=>by cases e),fun _=>rfl⟩ hm
  have hsem:=hop_ok c hp.srel hf o
  have called:∀ {f:FuncId} {xs:List HV} {vs:Array Value},(execOp ra.eval o).run c.P w = .ok (.enter f vs) w→relVs G xs vs.toList→CallWp c f xs s (fun x s'=>match hput n o.dst .sure x a with
    |none=>False
    |some a'=>opsWp c n all Q rest a' s') (fun x s'=>Q (.pan x) a s')→Oper.wpY c.P o ra w (wpOpsY c.P all (Lift n s0 G0 w0 Q) (List.range' (k+1) rest.length)) (Lift n s0 G0 w0 Q):=by
   intro f xs vs hr hx hc
   unfold Oper.wpY
   rw [hr,Oper.uponY_enter]
   refine (hc.out.out G w vs hp.srel hx).mono fun e w' ⟨he,s',G',hR,hrel,hp'⟩=>?_
   cases he with
   |ret x=>
    cases e<;>first|exact hrel.elim|skip
    exact next (g:=.sure) hp' hrel hR
   |pan x=>
    cases e<;>first|exact hrel.elim|skip
    exact ⟨.pan x,a,s',G',hR,hrel,hf.mono hp'.ext.le,hp.trans h0 hp'⟩
  simp only [opsWp] at h
  split at h
  ·exact h.elim
  ·rename_i hact
   have hw:=active_ok hf hact
   simp only [] at hw
   rw [hw]
   simp only [if_true]
   refine .inl ?_
   generalize hop c o.op a s=q at h hsem
   induction q with
   |bad=>exact h.elim
   |pure x=>
    obtain ⟨u,w',G',hy,hr,hp'⟩:=hsem
    exact upon_gives hy (next (g:=.sure) hp' hr h)
   |val φ x=>
    obtain ⟨hφ,h⟩:=h
    obtain ⟨u,w',G',hy,hr,hp'⟩:=hsem hφ
    exact upon_gives hy (next (g:=.sure) hp' hr h)
   |call φ f xs=>
    obtain ⟨hφ,h⟩:=h
    obtain ⟨vs,hr,hx⟩:=hsem hφ
    exact called hr hx h
   |pan φ x=>
    obtain ⟨hφ,h⟩:=h
    obtain ⟨u,hr,hu⟩:=hsem hφ
    unfold Oper.wpY
    rw [hr,Oper.uponY_panic]
    exact ⟨.pan _,a,s,G,h,⟨u,rfl,hu⟩,hf,hp⟩
   |eff W=>
    obtain ⟨x,s',hK,u,w',G',hy,hr,hp'⟩:=hsem _ h
    exact upon_gives hy (next (g:=.sure) hp' hr hK)
   |look r k ihq=>
    obtain ⟨x,hx,h⟩:=h
    exact ihq x h (hsem x hx)
  ·rename_i b hact
   have hw:=active_ok hf hact
   simp only [] at hw
   rw [hw]
   generalize hop c o.op a s=q at h hsem
   induction q with
   |bad=>exact h.elim
   |pure x=>
    obtain ⟨u,w',G',hy,hr,hp'⟩:=hsem
    cases b with
    |true=>exact .inl (upon_gives hy (next (g:=.cond true) hp' ⟨fun _=>hr,(fun e=>by cases e)⟩ h))
    |false=>exact next (g:=.cond false) (.refl hp.srel) ⟨(fun e=>by cases e),fun _=>rfl⟩ h
   |val φ x=>
    obtain ⟨hφ,h⟩:=h
    cases b with
    |true=>
     obtain ⟨u,w',G',hy,hr,hp'⟩:=hsem (hφ rfl)
     exact .inl (upon_gives hy (next (g:=.cond true) hp' ⟨fun _=>hr,(fun e=>by cases e)⟩ h))
    |false=>exact next (g:=.cond false) (.refl hp.srel) ⟨(fun e=>by cases e),fun _=>rfl⟩ h
   |call φ f xs=>
    rcases h with ⟨⟨x,hq,h⟩|h⟩
    ·cases b with
     |true=>
      obtain ⟨hφ,hc⟩:=hq rfl
      obtain ⟨vs,hr,hx⟩:=hsem hφ
      refine .inl ?_
      unfold Oper.wpY
      rw [hr,Oper.uponY_enter]
      refine (hc.out.out G w vs hp.srel hx).mono fun e w' ⟨he,s',G',⟨h1,h2⟩,hrel,hp'⟩=>?_
      subst h1 h2
      cases e<;>first|exact hrel.elim|skip
      exact next (g:=.cond true) hp' ⟨fun _=>hrel,(fun e=>by cases e)⟩ h
     |false=>exact next (g:=.cond false) (.refl hp.srel) ⟨(fun e=>by cases e),fun _=>rfl⟩ h
    ·cases b with
     |true=>
      obtain ⟨hφ,h⟩:=h.1 rfl
      obtain ⟨vs,hr,hx⟩:=hsem hφ
      exact .inl (called hr hx h)
     |false=>exact off (h.2 rfl)
   |pan φ x=>
    cases b with
    |true=>
     obtain ⟨hφ,h⟩:=h.1 rfl
     obtain ⟨u,hr,hu⟩:=hsem hφ
     refine .inl ?_
     unfold Oper.wpY
     rw [hr,Oper.uponY_panic]
     exact ⟨.pan _,a,s,G,h,⟨u,rfl,hu⟩,hf,hp⟩
    |false=>exact off (h.2 rfl)
   |eff W=>
    cases b with
    |true=>
     obtain ⟨x,s',hK,u,w',G',hy,hr,hp'⟩:=hsem _ (h.1 rfl)
     exact .inl (upon_gives hy (next (g:=.sure) hp' hr hK))
    |false=>exact off (h.2 rfl)
   |look r k ihq=>
    obtain ⟨x,hx,h⟩:=h
    exact ihq x h (hsem x hx)
theorem hwp_sound (c:Cx) (n:Nat):∀ (code:Code) (Q:HExit→Fr→HS→Prop) (a:Fr) (s:HS),hwp c n code Q a s→SemWp c.P n code Q a s
 |.skip,Q,a,s,h=>.done (he:=.normal) (fun _ _ _=>wpB_skip) (fun _=>trivial) h
 |.label _,Q,a,s,h=>.done (he:=.normal) (fun _ _ _=>wpB_label) (fun _=>trivial) h
 |.exit id,Q,a,s,h=>.done (he:=.exit id) (fun _ _ _=>wpB_exit) (fun _=>rfl) h
 |.ret,Q,a,s,h=>.done (he:=.ret) (fun _ _ _=>wpB_ret) (fun _=>trivial) h
 |.region id ops draw,Q,a,s,h=>by
  cases draw with
  |true=>exact (show DrawReg c.P n id ops Q a s from h).out
  |false=>
   refine ⟨fun G w ra hs hf=>wpB_region ?_⟩
   have:=opsWp_ok c n ops Q hs ops.toList 0 rfl a s G w ra h (.refl hs) hf
   rw [List.range_eq_range',←Array.length_toList]
   exact this
 |.seq x y,Q,a,s,h=>by
  have h:hwp c n x (hthen (hwp c n y Q) Q) a s:=h
  refine SemWp.seq ((hwp_sound c n x _ a s h).mono fun e a s hq=>?_)
  cases e with
  |normal=>exact hwp_sound c n y Q a s hq.out
  |exit i=>exact hq
  |ret=>exact hq
  |pan x=>exact hq
 |.cond t x y,Q,a,s,h=>by
  simp only [hwp] at h
  split at h
  ·rename_i b he
   refine ⟨fun G w ra hs hf=>?_⟩
   have hb:=rel_v_eq (ev_ok hf he)
   cases b with
   |true=>exact wpB_cond_true hb ((hwp_sound c n x Q a s (h.1 rfl)).out G w ra hs hf)
   |false=>exact wpB_cond_false hb ((hwp_sound c n y Q a s (h.2 rfl)).out G w ra hs hf)
  ·exact h.elim
 |.block id b,Q,a,s,h=>.block (hwp_sound c n b _ a s h)
 |.loop b,Q,a,s,h=>h
 |.rangeFunc _ _ _ _,Q,a,s,h=>h
 |.scope _,Q,a,s,h=>h
 |.goto _,Q,a,s,h=>h
 |.refuse _,Q,a,s,h=>h
/-! Bodies. -/
def resH (a:Fr):List ResultVar→Option (List HV)
 |[]=>some []
 |.tmp t::l=>match a.get t with
  |some (.sure,x)=>match resH a l with
   |some xs=>some (x::xs)
   |none=>none
  |_=>none
 |_=>none
/-- What is left to be shown at an end. -/
structure Fin (p:Prop):Prop where
 out:p
def bodyQ (rs:List ResultVar) (R:HEnd→HS→Prop):HExit→Fr→HS→Prop
 |.pan x,_,s=>Fin (R (.pan x) s)
 |.exit _,_,_=>False
 |_,a,s=>match resH a rs with
  |some [x]=>Fin (R (.ret x) s)
  |some l=>Fin (R (.ret (.tup l)) s)
  |none=>False
def initFr:List HV→Nat→Fr
 |[],_=>[]
 |x::xs,k=>(k,.sure,x)::initFr xs (k+1)
end
end Go.Proofs.Hk

namespace Go.Proofs.Hk
noncomputable section
open Go
def rdRes (tmps:Array Value):ResultVar→Sem Value
 |.tmp t=>pure (tmps.getD t undef)
 |.cell a t=>do loadVar t (←asAddr (tmps.getD a undef))
theorem results_eq (fn:Func) (tmps:Array Value):results fn tmps=(do let vs ←fn.results.mapM (rdRes tmps);pure (if h:vs.size=1 then vs[0] else .tuple vs)):=by
 unfold results
 congr 1
theorem resH_ok {P:Program} {G:Ghost} {n:Nat} {a:Fr} {ra:Act} {w:World} (hf:FRel G n a ra):∀ {rs:List ResultVar} {xs:List HV},resH a rs=some xs→
  ∃ us:List Value,(rs.mapM (rdRes ra.tmps):Sem (List Value)).run P w = .ok us w∧relVs G xs us
 |[],xs,h=>by
  simp only [resH,Option.some.injEq] at h
  subst h
  exact ⟨[],rfl,by simp [relVs]⟩
 |.tmp t::l,xs,h=>by
  simp only [resH] at h
  split at h
  ·rename_i x he
   split at h
   ·rename_i xs' hx
    cases h
    obtain ⟨us,h1,h2⟩:=resH_ok (P:=P) (w:=w) hf hx
    obtain ⟨_,hr⟩:=hf.slots t _ _ he
    exact ⟨ra.tmps.getD t undef::us,by simp only [List.mapM_cons,rdRes,Sem.run_bind,Sem.run_pure,Result.andThen_ok,h1],by rw [relVs_cons];exact ⟨_,_,rfl,hr,h2⟩⟩
   ·cases h
  ·cases h
 |.cell _ _::l,xs,h=>by simp [resH] at h
theorem initFr_get:∀ (args:List HV) (k t:Nat) (g:Tag) (x:HV),(initFr args k).get t=some (g,x)→g = .sure∧∃ i,t=k+i∧args[i]? = some x
 |[],k,t,g,x,h=>by simp [initFr,Fr.get] at h
 |y::ys,k,t,g,x,h=>by
  simp only [initFr,Fr.get] at h
  split at h
  ·rename_i hk
   have:=Nat.eq_of_beq_eq_true hk
   cases h
   exact ⟨rfl,0,by omega,rfl⟩
  ·obtain ⟨h1,i,h2,h3⟩:=initFr_get ys (k+1) t g x h
   exact ⟨h1,i+1,by omega,by simpa using h3⟩
theorem hcalls_of (c:Cx) {f:FuncId} {fn:Func} {code:Code} {args:List HV} {s:HS} {R:HEnd→HS→Prop} (hf:c.P.funcs[f]? = some fn) (hb:fn.body=some code) (hn:Nat.ble args.length fn.ntmps=true)
  (h:SemWp c.P fn.ntmps code (bodyQ fn.results.toList R) (initFr args 0) s):HCalls c.P f args s R:=
 HCalls.of_df fun G w vs hdf hs ha=>by
  have hl:=relVs_length ha
  have hn:=Nat.le_of_ble_eq_true hn
  have hsz:vs.size=args.length:=by simpa using hl
  refine calls_of_wpB hf hb (wpB_mono (h.out G w _ hs ⟨by simp;omega,hdf.symm,fun t g x e=>?_⟩) fun e ra' w' ⟨he,a',s',G',q,hr,hf',hp⟩=>?_)
  ·obtain ⟨rfl,i,rfl,hx⟩:=initFr_get args 0 t g x e
   obtain ⟨u,hu,hr⟩:=relVs_get ha i x hx
   have hi:i < args.length:=(List.getElem?_eq_some_iff.1 hx).1
   refine ⟨by omega,?_⟩
   have:(vs ++ Array.replicate (fn.ntmps - vs.size) undef).getD (0+i) undef=u:=by
    rw [Nat.zero_add,Array.getD_eq_getD_getElem?,Array.getElem?_append_left (by omega)]
    have:vs[i]? = some u:=by simpa using hu
    rw [this];rfl
   rw [this]
   exact hr
  ·have fin:∀ rs:List ResultVar,rs=fn.results.toList→(match resH a' rs with|some [x]=>Fin (R (.ret x) s')|some l=>Fin (R (.ret (.tup l)) s')|none=>False)→ra'.defers=[]∧∃ v,(results fn ra'.tmps).run c.P w' = .ok v w'∧∃ he s' G',R he s'∧endRel G' he (.returned v)∧Post s G w s' G' w':=by
    intro rs hrs hm
    refine ⟨hf'.defers.trans (hp.ext.le.df.trans hdf),?_⟩
    cases hx:resH a' rs with
    |none=>rw [hx] at hm;exact hm.elim
    |some xs=>
     rw [hx] at hm
     obtain ⟨us,h1,h2⟩:=resH_ok (P:=c.P) (w:=w') hf' hx
     have hus:=relVs_length h2
     have hrun:(fn.results.mapM (rdRes ra'.tmps):Sem (Array Value)).run c.P w' = .ok us.toArray w':=by
      rw [←Array.toArray_toList (xs:=fn.results),←hrs,List.mapM_toArray,Sem.run_map]
      rw [h1];rfl
     have hres:(results fn ra'.tmps).run c.P w' = .ok (if h:us.toArray.size=1 then us.toArray[0] else .tuple us.toArray) w':=by
      rw [results_eq,Sem.run_bind,hrun]
      rfl
     match xs,hm,h2,hus with
     |[x],hm,h2,hus=>
      simp only [relVs_cons] at h2
      obtain ⟨u,us',rfl,hr1,hr2⟩:=h2
      simp only [relVs] at hr2
      subst hr2
      exact ⟨u,hres,_,s',G',hm.out,hr1,hp⟩
     |[],hm,h2,hus=>
      simp only [relVs] at h2
      subst h2
      exact ⟨_,hres,_,s',G',hm.out,(show rel G' (.tup []) (.tuple [].toArray) from tup_rel (by simp [relVs])),hp⟩
     |x::y::l,hm,h2,hus=>
      have hne:¬ us.toArray.size=1:=by simp at hus ⊢;omega
      rw [dif_neg hne] at hres
      exact ⟨_,hres,_,s',G',hm.out,tup_rel h2,hp⟩
   cases he with
   |normal=>cases e<;>first|exact hr.elim|exact fin _ rfl q
   |ret=>cases e<;>first|exact hr.elim|exact fin _ rfl q
   |exit i=>exact q.elim
   |pan x=>
    cases e<;>first|exact hr.elim|skip
    exact ⟨hf'.defers.trans (hp.ext.le.df.trans hdf),.pan x,s',G',q.out,hr,hp⟩
/-- A function by its body. -/
theorem hcalls (c:Cx) {f:FuncId} {fn:Func} {code:Code} {args:List HV} {s:HS} {R:HEnd→HS→Prop} (hf:c.P.funcs[f]? = some fn) (hb:fn.body=some code) (hn:Nat.ble args.length fn.ntmps=true)
  (h:hwp c fn.ntmps code (bodyQ fn.results.toList R) (initFr args 0) s):HCalls c.P f args s R:=hcalls_of c hf hb hn (hwp_sound c _ _ _ _ _ h)
end
end Go.Proofs.Hk

namespace Go.Proofs.Hk
noncomputable section
open Go
theorem Post.permR {s s1 s2:HS} {G G':Ghost} {w w':World} (p:s1.Perm s2) (k:Post s G w s1 G' w'):Post s G w s2 G' w':=
 ⟨k.srel.permd p,k.ext,fun r hr=>k.names r ((p.map _).mem_iff.2 hr)⟩
theorem Post.frameL {s t s':HS} {G G':Ghost} {w w':World} (h:SRel G (t ++ s) w) (k:Post s G w s' G' w'):Post (t ++ s) G w (t ++ s') G' w':=
 ((Post.frame (h.permd List.perm_append_comm) k).permL List.perm_append_comm).permR List.perm_append_comm
/-! Regions whose order is drawn. -/
abbrev GF:=Nat→Option (Tag × HV)
def gput (g:GF) (dst:Option Tmp) (e:Tag × HV):GF:=
 match dst with
 |none=>g
 |some d=>fun t=>if t=d then some e else g t
theorem gput_comm (g:GF) {x y:Option Tmp} (v u:Tag × HV) (h:∀ d,x=some d→y≠some d):gput (gput g x v) y u=gput (gput g y u) x v:=by
 cases x with
 |none=>rfl
 |some d=>
  cases y with
  |none=>rfl
  |some e=>
   have hne:d≠e:=fun he=>h d rfl (he ▸ rfl)
   funext t
   simp only [gput]
   by_cases h1:t=e
   ·subst h1;rw [if_pos rfl,if_neg (Ne.symm hne),if_pos rfl]
   ·rw [if_neg h1]
    by_cases h2:t=d
    ·rw [if_pos h2,if_pos h2]
    ·rw [if_neg h2,if_neg h2,if_neg h1]
structure FOn (S:List Tmp) (G:Ghost) (n:Nat) (g:GF) (ra:Act):Prop where
 size:ra.tmps.size=n
 defers:ra.defers=G.df
 slots:∀ t,t∈S→∀ tg x,g t=some (tg,x)→t < n∧tagRel G tg x (ra.tmps.getD t undef)
structure FAll (G:Ghost) (n:Nat) (g:GF) (ra:Act):Prop where
 size:ra.tmps.size=n
 defers:ra.defers=G.df
 slots:∀ t tg x,g t=some (tg,x)→t < n∧tagRel G tg x (ra.tmps.getD t undef)
theorem FAll.on {G:Ghost} {n:Nat} {g:GF} {ra:Act} (h:FAll G n g ra) (S:List Tmp):FOn S G n g ra:=⟨h.size,h.defers,fun t _=>h.slots t⟩
theorem FAll.put {G:Ghost} {n:Nat} {g:GF} {ra:Act} (h:FAll G n g ra) {dst:Option Tmp} (hd:∀ d,dst=some d→d < n) {tg:Tag} {x:HV} {u:Value} (hu:tagRel G tg x u):FAll G n (gput g dst (tg,x)) (ra.put dst u):=by
 cases dst with
 |none=>exact h
 |some d=>
  have hd:=hd d rfl
  refine ⟨by simp [Act.put,h.size],h.defers,fun t tg' x' e=>?_⟩
  simp only [gput] at e
  split at e
  ·rename_i ht
   subst ht
   cases e
   refine ⟨hd,?_⟩
   have:((ra.put (some t) u).tmps).getD t undef=u:=by
    simp only [Act.put,Array.getD_eq_getD_getElem?]
    rw [Array.getElem?_setIfInBounds_self_of_lt (by rw [h.size];exact hd)]
    rfl
   rw [this];exact hu
  ·rename_i ht
   have:=h.slots t tg' x' e
   refine ⟨this.1,?_⟩
   have e2:((ra.put (some d) u).tmps).getD t undef=ra.tmps.getD t undef:=by
    simp only [Act.put,Array.getD_eq_getD_getElem?]
    rw [Array.getElem?_setIfInBounds_ne (Ne.symm ht)]
   rw [e2];exact this.2
theorem FAll.mono {G G':Ghost} (le:G.Le G') {n:Nat} {g:GF} {ra:Act} (h:FAll G n g ra):FAll G' n g ra:=
 ⟨h.size,h.defers.trans le.df.symm,fun t tg x e=>⟨(h.slots t tg x e).1,(h.slots t tg x e).2.mono le⟩⟩
def tgB:Tag→Bool
 |.sure=>true
 |.cond b=>b
/-- What an operation comes to, a value. -/
def OpTo (P:Program) (o:Oper) (ra:Act) (w:World) (R:Value→World→Prop):Prop:=
 match (execOp ra.eval o).run P w with
 |.ok (.value u) w'=>R u w'
 |.ok .skip w'=>R undef w'
 |.ok (.enter f args) w'=>Calls P f args w' fun e w''=>∃ u,e = .returned u∧R u w''
 |_=>False
theorem OpTo.wp {P:Program} {o:Oper} {ra:Act} {w:World} {R:Value→World→Prop} {next:Act→World→Prop} {Q:Exit→Act→World→Prop} (h:OpTo P o ra w R) (hn:∀ u w',R u w'→next (ra.put o.dst u) w'):Oper.wpY P o ra w next Q:=by
 unfold OpTo at h
 unfold Oper.wpY
 generalize (execOp ra.eval o).run P w=r at *
 cases r with
 |ok nx w'=>
  cases nx<;>simp only at h<;>simp only [Oper.uponY]
  ·exact hn _ _ h
  ·exact hn _ _ h
  ·exact h.mono fun e w'' ⟨u,he,hR⟩=>by subst he;exact hn _ _ hR
 |halt x w'=>exact h.elim
section
variable (P:Program) (n:Nat) (ops:Array Oper) (t:HS) (E:List Nat)
/-- In a frame, of which only what it looks at counts, an operation yields this, and turns m to m'. -/
def YH (o:Oper) (g:GF) (m:HS) (e:Tag × HV) (m':HS):Prop:=
 (∀ d,o.dst=some d→d < n)∧∀ G w ra,SRel G (m ++ t) w→FOn (o.looksAt ops) G n g ra→
  Region.wanted o (yielded ops ra.tmps)=tgB e.1∧(tgB e.1=true→OpTo P o ra w fun u w'=>∃ G',rel G' e.2 u∧Post (m ++ t) G w (m' ++ t) G' w')
def YQ (o:Oper) (g:GF) (e:Tag × HV):Prop:=∀ m,YH P n ops t o g m e m
theorem YH.put {o:Oper} {g:GF} {m m':HS} {e:Tag × HV} (h:YH P n ops t o g m e m') {dst:Option Tmp} (hd:∀ d,dst=some d→d∉o.looksAt ops) (e':Tag × HV):YH P n ops t o (gput g dst e') m e m':=by
 refine ⟨h.1,fun G w ra hs hf=>h.2 G w ra hs ⟨hf.size,hf.defers,fun s hs' tg x eq=>hf.slots s hs' tg x ?_⟩⟩
 cases dst with
 |none=>exact eq
 |some d=>
  simp only [gput]
  rw [if_neg (fun hh:s=d=>hd d rfl (hh ▸ hs'))]
  exact eq
theorem YH.unput {o:Oper} {g:GF} {m m':HS} {e:Tag × HV} {dst:Option Tmp} {e':Tag × HV} (h:YH P n ops t o (gput g dst e') m e m') (hd:∀ d,dst=some d→d∉o.looksAt ops):YH P n ops t o g m e m':=by
 refine ⟨h.1,fun G w ra hs hf=>h.2 G w ra hs ⟨hf.size,hf.defers,fun s hs' tg x eq=>hf.slots s hs' tg x ?_⟩⟩
 cases dst with
 |none=>exact eq
 |some d=>
  simp only [gput] at eq
  rw [if_neg (fun hh:s=d=>hd d rfl (hh ▸ hs'))] at eq
  exact eq
/-- An operation as it comes up. -/
def qOpH (i:Nat) (K:GF→HS→Prop) (g:GF) (m:HS):Prop:=
 match ops[i]? with
 |none=>K g m
 |some o=>match E.contains i with
  |true=>∃ e m',tgB e.1=true∧YH P n ops t o g m e m'∧K (gput g o.dst e) m'
  |false=>∃ e,YQ P n ops t o g e∧K (gput g o.dst e) m
theorem qOpH_mono {i:Nat} {K K':GF→HS→Prop} (h:∀ g m,K g m→K' g m) {g:GF} {m:HS} (hh:qOpH P n ops t E i K g m):qOpH P n ops t E i K' g m:=by
 unfold qOpH at *
 split
 ·exact h _ _ (by simpa [*] using hh)
 ·rename_i o ho
  simp only [ho] at hh
  split
  ·rename_i hE;simp only [hE] at hh;obtain ⟨e,m',h0,h1,h2⟩:=hh;exact ⟨e,m',h0,h1,h _ _ h2⟩
  ·rename_i hE;simp only [hE] at hh;obtain ⟨e,h1,h2⟩:=hh;exact ⟨e,h1,h _ _ h2⟩
def wpAnyH (Q:GF→HS→Prop):Nat→Array Bool→GF→HS→Prop
 |0,listed,g,m=>Region.ready .any ops listed=[]∧Q g m
 |fuel+1,listed,g,m=>
  (Region.ready .any ops listed=[]→Q g m)∧
  ∀ i∈Region.ready .any ops listed,qOpH P n ops t E i (wpAnyH Q fuel (listed.setIfInBounds i true)) g m
/-- It goes through as the machine does it. -/
theorem wpAny_of_H {Q:GF→HS→Prop} {Q':Exit→Act→World→Prop} {s0:HS} {G0:Ghost} {w0:World} (h0:SRel G0 s0 w0)
  (hQ:∀ g m G w ra,Post s0 G0 w0 (m ++ t) G w→FAll G n g ra→Q g m→Q' .normal ra w) :
  ∀ (fuel:Nat) (listed:Array Bool) (g:GF) (m:HS) (G:Ghost) (w:World) (ra:Act),Post s0 G0 w0 (m ++ t) G w→FAll G n g ra→wpAnyH P n ops t E Q fuel listed g m→wpAnyY P .any ops Q' fuel listed ra w
 |0,_,g,m,G,w,ra,hp,hf,h=>⟨h.1,hQ g m G w ra hp hf h.2⟩
 |fuel+1,listed,g,m,G,w,ra,hp,hf,h=>⟨fun h1=>hQ g m G w ra hp hf (h.1 h1),fun i hi=>by
   have hi:=h.2 i hi
   unfold qOpH at hi
   unfold wpOpY
   have step:∀ {o:Oper} {e:Tag × HV} {m':HS},YH P n ops t o g m e m'→(tgB e.1=false→m'=m)→wpAnyH P n ops t E Q fuel (listed.setIfInBounds i true) (gput g o.dst e) m'→
     if Region.wanted o (yielded ops ra.tmps)=true then Oper.wpY P o ra w (wpAnyY P .any ops Q' fuel (listed.setIfInBounds i true)) Q'∨(False∧LetsOut Q') else wpAnyY P .any ops Q' fuel (listed.setIfInBounds i true) (ra.put o.dst undef) w:=by
    intro o e m' hy hoff hK
    obtain ⟨hd,hy⟩:=hy
    obtain ⟨hw,hto⟩:=hy G w ra hp.srel (hf.on _)
    rw [hw]
    cases hb:tgB e.1 with
    |true=>
     rw [if_pos rfl]
     refine .inl ((hto hb).wp fun u w' ⟨G',hr,hp'⟩=>?_)
     refine wpAny_of_H h0 hQ fuel _ _ m' G' w' _ (hp.trans h0 hp') ((hf.mono hp'.ext.le).put hd ?_) hK
     cases he:e.1 with
     |sure=>exact hr
     |cond b=>rw [he] at hb;exact ⟨fun _=>hr,(fun hb'=>by rw [show b=true from hb] at hb';cases hb')⟩
    |false=>
     rw [if_neg (by simp)]
     have:=hoff hb
     subst this
     refine wpAny_of_H h0 hQ fuel _ _ m' G w _ hp (hf.put hd ?_) hK
     cases he:e.1 with
     |sure=>rw [he] at hb;cases hb
     |cond b=>rw [he] at hb;exact ⟨(fun hb'=>by rw [show b=false from hb] at hb';cases hb'),fun _=>rfl⟩
   split
   ·rename_i ho;simp only [ho] at hi;exact wpAny_of_H h0 hQ fuel _ g m G w ra hp hf hi
   ·rename_i o ho
    simp only [ho] at hi
    split at hi
    ·obtain ⟨e,m',h1,h2,h3⟩:=hi
     exact step h2 (fun h=>by rw [h1] at h;cases h) h3
    ·obtain ⟨e,h2,h3⟩:=hi
     exact step (h2 m) (fun _=>rfl) h3⟩
/-- What has been shown of an operation that is taken first. -/
def YF (i:Nat) (o:Oper) (g:GF) (m:HS) (e:Tag × HV) (m':HS):Prop:=
 match E.contains i with
 |true=>tgB e.1=true∧YH P n ops t o g m e m'
 |false=>m'=m∧YQ P n ops t o g e
theorem YF.qOp {i:Nat} {o:Oper} {g:GF} {m m':HS} {e:Tag × HV} (hi:ops[i]? = some o) (hy:YF P n ops t E i o g m e m') {K:GF→HS→Prop} (h:K (gput g o.dst e) m'):qOpH P n ops t E i K g m:=by
 unfold qOpH
 simp only [hi]
 unfold YF at hy
 split at hy
 ·exact ⟨e,m',hy.1,hy.2,h⟩
 ·obtain ⟨rfl,hy⟩:=hy;exact ⟨e,hy,h⟩
theorem yf_of_qOp {i:Nat} {o:Oper} {g:GF} {m:HS} {K:GF→HS→Prop} (hi:ops[i]? = some o) (h:qOpH P n ops t E i K g m):∃ e m',YF P n ops t E i o g m e m'∧K (gput g o.dst e) m':=by
 unfold qOpH at h
 simp only [hi] at h
 split at h
 ·rename_i hE
  obtain ⟨e,m',h1,h2,h3⟩:=h
  exact ⟨e,m',by unfold YF;rw [hE];exact ⟨h1,h2⟩,h3⟩
 ·rename_i hE
  obtain ⟨e,h2,h3⟩:=h
  exact ⟨e,m,by unfold YF;rw [hE];exact ⟨rfl,h2⟩,h3⟩
def apartE (i j:Nat) (oi oj:Oper):Bool:=oi.apart ops oj && !(E.contains i && E.contains j)
theorem qOpH_put {i j:Nat} {oi oj:Oper} {e:Tag × HV} (hj:ops[j]? = some oj) (hap:apartE ops E i j oi oj=true) {K:GF→HS→Prop} {g:GF} {m m':HS}
  (hy:YF P n ops t E i oi g m e m') (h:qOpH P n ops t E j K (gput g oi.dst e) m') :
  qOpH P n ops t E j (fun g1 m1=>∃ m2,YF P n ops t E i oi g1 m1 e m2∧K (gput g1 oi.dst e) m2) g m:=by
 simp only [apartE,Bool.and_eq_true,Bool.not_eq_true',Bool.and_eq_false_iff] at hap
 obtain ⟨h1,h2,h3⟩:=Oper.apart_spec hap.1
 unfold qOpH at *
 simp only [hj] at *
 cases hEi:E.contains i with
 |true=>
  have hEj:E.contains j=false:=by rcases hap.2 with h|h;rw [hEi] at h;cases h;exact h
  simp only [hEj] at h ⊢
  unfold YF at hy ⊢
  simp only [hEi] at hy ⊢
  obtain ⟨ej,hq,hK⟩:=h
  refine ⟨ej,fun m0=>(hq m0).unput P n ops t h1,m',⟨hy.1,hy.2.put P n ops t h3 _⟩,?_⟩
  rw [←gput_comm g e ej h2];exact hK
 |false=>
  unfold YF at hy ⊢
  simp only [hEi] at hy ⊢
  obtain ⟨rfl,hy⟩:=hy
  cases hEj:E.contains j with
  |true=>
   simp only [hEj] at h ⊢
   obtain ⟨ej,m2,h0,hq,hK⟩:=h
   refine ⟨ej,m2,h0,hq.unput P n ops t h1,m2,⟨rfl,fun m0=>(hy m0).put P n ops t h3 _⟩,?_⟩
   rw [←gput_comm g e ej h2];exact hK
  |false=>
   simp only [hEj] at h ⊢
   obtain ⟨ej,hq,hK⟩:=h
   refine ⟨ej,fun m0=>(hq m0).unput P n ops t h1,m',⟨rfl,fun m0=>(hy m0).put P n ops t h3 _⟩,?_⟩
   rw [←gput_comm g e ej h2];exact hK
theorem wpAnyH_first {Q:GF→HS→Prop} {i:Nat} {oi:Oper} {e:Tag × HV} (hi:ops[i]? = some oi) :
  ∀ (fuel:Nat) (listed:Array Bool) (g:GF) (m m':HS),
   (∀ j oj,ops[j]? = some oj→j≠i→listed.getD j true=false→(∀ e∈oj.after,Region.binds .any e=true→e.on≠i)→apartE ops E i j oi oj=true)→
   i∈Region.ready .any ops listed→YF P n ops t E i oi g m e m'→
   wpAnyH P n ops t E Q fuel (listed.setIfInBounds i true) (gput g oi.dst e) m'→wpAnyH P n ops t E Q (fuel+1) listed g m:=by
 intro fuel
 induction fuel with
 |zero=>
  intro listed g m m' _ hr hy H
  refine ⟨fun h=>(by rw [h] at hr;cases hr),fun j hj=>?_⟩
  by_cases hji:j=i
  ·subst hji;exact hy.qOp P n ops t E hi H
  ·have:=ready_mono hj hji
   rw [H.1] at this
   cases this
 |succ fuel ih=>
  intro listed g m m' hfree hr hy H
  refine ⟨fun h=>(by rw [h] at hr;cases hr),fun j hj=>?_⟩
  by_cases hji:j=i
  ·subst hji;exact hy.qOp P n ops t E hi H
  ·have h1:=H.2 j (ready_mono hj hji)
   obtain ⟨hjun,oj,hoj,hall⟩:=mem_ready.1 hj
   have hnot:∀ e∈oj.after,Region.binds .any e=true→e.on≠i:=fun e he hb heq=>by
    have h1:=hall e he hb
    have h0:=(mem_ready.1 hr).1
    rw [heq] at h1
    rcases Nat.lt_or_ge i listed.size with h'|h'
    ·simp [h'] at h0 h1;rw [h0] at h1;cases h1
    ·simp [Array.getElem?_eq_none h'] at h1
   have h2:=qOpH_put P n ops t E hoj (hfree j oj hoj hji hjun hnot) hy h1
   have hfree':∀ k ok,ops[k]? = some ok→k≠i→(listed.setIfInBounds j true).getD k true=false→
     (∀ e∈ok.after,Region.binds .any e=true→e.on≠i)→apartE ops E i k oi ok=true:=fun k ok hk hki hun hno=>by
    refine hfree k ok hk hki ?_ hno
    by_cases hjk:j=k
    ·subst hjk;exact hjun
    ·rw [getD_set_ne true hjk] at hun;exact hun
   refine qOpH_mono P n ops t E (fun g1 m1 ⟨m2,h3,h4⟩=>ih (listed.setIfInBounds j true) g1 m1 m2 hfree' (ready_mono hr (Ne.symm hji)) h3 ?_) h2
   rw [Array.setIfInBounds_comm _ _ hji]
   exact h4
def freeE (listed:Array Bool) (i:Nat):Bool:=
 match ops[i]? with
 |none=>false
 |some oi=>(List.range ops.size).all fun j=>j == i||listed.getD j true||match ops[j]? with
   |some oj=>oj.after.any (fun e=>Region.binds .any e && e.on == i)||apartE ops E i j oi oj
   |none=>true
theorem freeE_spec {i:Nat} {oi:Oper} {listed:Array Bool} (hi:ops[i]? = some oi) (h:freeE ops E listed i=true) (j:Nat) (oj:Oper)
  (hj:ops[j]? = some oj) (hne:j≠i) (hun:listed.getD j true=false) (hno:∀ e∈oj.after,Region.binds .any e=true→e.on≠i) :
  apartE ops E i j oi oj=true:=by
 simp only [freeE,hi,List.all_eq_true,List.mem_range] at h
 have h1:=h j (Array.getElem?_eq_some_iff.1 hj).1
 simp only [hj,Bool.or_eq_true,beq_iff_eq,hne,false_or,hun,Bool.false_eq_true] at h1
 rcases h1 with h1|h1
 ·obtain ⟨e,he,hb⟩:=Array.any_eq_true'.1 h1
  simp only [Bool.and_eq_true,beq_iff_eq] at hb
  exact absurd hb.2 (hno e he hb.1)
 ·exact h1
def lexE:Nat→Nat→Array Bool→Bool
 |0,_,listed=>(Region.ready .any ops listed).isEmpty
 |fuel+1,k,listed=>(Region.ready .any ops listed).contains k && freeE ops E listed k && lexE fuel (k+1) (listed.setIfInBounds k true)
/-- The text's order is one, and serves for all. -/
def lexEB:Bool:=lexE ops E ops.size 0 (Array.replicate ops.size false)
def textH (Q:GF→HS→Prop):Nat→Nat→GF→HS→Prop
 |0,_,g,m=>Q g m
 |fuel+1,k,g,m=>qOpH P n ops t E k (textH Q fuel (k+1)) g m
theorem wpAnyH_lex {Q:GF→HS→Prop} : ∀ (fuel k:Nat) (listed:Array Bool) (g:GF) (m:HS),k+fuel=ops.size→lexE ops E fuel k listed=true→textH P n ops t E Q fuel k g m→wpAnyH P n ops t E Q fuel listed g m
 |0,_,_,_,_,_,hB,h=>⟨by simpa [lexE] using hB,h⟩
 |fuel+1,k,listed,g,m,hk,hB,h=>by
  have hlt:k < ops.size:=by omega
  have h0:ops[k]? = some ops[k]:=Array.getElem?_eq_getElem hlt
  simp only [lexE,Bool.and_eq_true] at hB
  obtain ⟨⟨hr,hf⟩,hB'⟩:=hB
  obtain ⟨e,m',hy,hK⟩:=yf_of_qOp P n ops t E h0 h
  exact wpAnyH_first P n ops t E h0 fuel listed g m m' (freeE_spec ops E h0 hf) (by simpa using hr) hy (wpAnyH_lex fuel (k+1) _ _ _ (by omega) hB' hK)
end
end
end Go.Proofs.Hk

set_option linter.unusedSimpArgs false
set_option linter.unusedVariables false
namespace Go.Proofs.Hk
noncomputable section
open Go Go.Proofs
/-- A new object by a name that was kept free. -/
def Ghost.newAs (G:Ghost) (r b:Nat):Ghost:=
 {G with om:=fun q=>if q=r then some b else G.om q,role:=fun b'=>if b'=b then some r else G.role b'}
theorem newAs_le {G:Ghost} {s:HS} {w:World} {r:Nat} (h:SRel G ((r,.void)::s) w) (b0:Nat):G.Le (G.newAs r b0):=by
 obtain ⟨h0,h1,h2,h3⟩:=h.holds r .void List.mem_cons_self
 exact ⟨fun _ _ _ e=>e,fun q b e=>by
  simp only [Ghost.newAs]
  split
  ·rename_i hq;subst hq;rw [h1] at e;cases e
  ·exact e,fun _ t e=>⟨t,e,Nat.le_refl _,fun _=>rfl⟩,rfl⟩
theorem post_newAs {G:Ghost} {s:HS} {w:World} {r:Nat} (h:SRel G ((r,.void)::s) w) (o:Obj) (x:Res) (hx:holds (G.newAs r w.heap.size) (World.pushed w o) r x) :
  Post ((r,.void)::s) G w ((r,x)::s) (G.newAs r w.heap.size) (World.pushed w o):=by
 obtain ⟨h0,h1,h2,h3⟩:=h.holds r .void List.mem_cons_self
 have le:G.Le (G.newAs r w.heap.size):=⟨fun _ _ _ e=>e,fun q b e=>by
  simp only [Ghost.newAs]
  split
  ·rename_i hq;subst hq;rw [h1] at e;cases e
  ·exact e,fun _ t e=>⟨t,e,Nat.le_refl _,fun _=>rfl⟩,rfl⟩
 have hb:∀ b,b < w.heap.size→(World.pushed w o).heap[b]? = w.heap[b]?∧(G.newAs r w.heap.size).role b=G.role b∧∀ o,(G.newAs r w.heap.size).K b o=G.K b o:=fun b hb=>
  ⟨pushed_lt w o hb,by simp only [Ghost.newAs];rw [if_neg (by omega)],fun _=>rfl⟩
 have hnd:=h.keys
 simp only [keys,List.map_cons,List.nodup_cons] at hnd
 have hv:∀ q,q≠r→G.om q=none→G.top q=none→(∀ b,G.role b≠some q)→(G.newAs r w.heap.size).om q=none∧(G.newAs r w.heap.size).top q=none∧∀ b,(G.newAs r w.heap.size).role b≠some q:=fun q hq a1 a2 a3=>by
  simp only [Ghost.newAs]
  refine ⟨by rw [if_neg hq];exact a1,a2,fun b=>?_⟩
  split
  ·simp;exact fun e=>hq e.symm
  ·exact a3 b
 refine ⟨⟨fun b off v e=>pushed_cell w o (h.kw b off v e),?_,fun q y hy=>?_,fun q hq=>?_,fun b q e=>?_⟩,⟨le,by simp [World.pushed],fun b hlt _=>hb b hlt,fun _ tp e _=>e,Nat.le_refl _,rfl,rfl,rfl,fun q _ hk a1 a2 a3=>hv q (fun e=>hk (by simp [keys,e])) a1 a2 a3⟩,fun q hq=>.inl ?_⟩
 ·simp only [keys,List.map_cons,List.nodup_cons];exact hnd
 ·rcases List.mem_cons.1 hy with hy|hy
  ·cases hy;exact hx
  ·have hne:q≠r:=fun e=>hnd.1 (e ▸ List.mem_map.2 ⟨_,hy,rfl⟩)
   have ho:=h.holds q y (List.mem_cons_of_mem _ hy)
   exact ho.agree1 h le hb (fun _ _ e=>e) fun b0 b1 b2 b3=>by
    obtain ⟨c1,c2,c3⟩:=hv q hne b1 b2 b3
    exact ⟨b0,c1,c2,c3⟩
 ·have:=h.fresh q hq
  simp only [Ghost.newAs]
  have hq:G.lim≤q:=hq
  rw [if_neg (by omega)]
  exact this
 ·simp only [Ghost.newAs,World.pushed,Array.size_push] at e ⊢
  split at e
  ·rename_i hb;subst hb;cases e;omega
  ·have:=h.role b q e;omega
 ·simpa [keys] using hq
/-- A name is kept free. -/
theorem post_void {G:Ghost} {s:HS} {w:World} (h:SRel G s w):Post s G w ((G.lim,.void)::s) { G with lim:=G.lim+1} w:=by
 have hr:∀ b,G.role b≠some G.lim:=fun b e=>absurd (h.role b _ e).2 (by omega)
 have le:G.Le { G with lim:=G.lim+1}:=⟨fun _ _ _ e=>e,fun _ _ e=>e,fun _ t e=>⟨t,e,Nat.le_refl _,fun _=>rfl⟩,rfl⟩
 refine ⟨⟨h.kw,?_,fun q y hy=>?_,fun q hq=>h.fresh q (by have hq:G.lim+1≤q:=hq;omega),fun b q e=>⟨(h.role b q e).1,by have:=(h.role b q e).2;show q < G.lim+1;omega⟩⟩,⟨le,Nat.le_refl _,fun _ _ _=>⟨rfl,rfl,fun _=>rfl⟩,fun _ _ e _=>e,by simp,rfl,rfl,rfl,fun _ _ _ a b c=>⟨a,b,c⟩⟩,fun q hq=>?_⟩
 ·simp only [keys,List.map_cons,List.nodup_cons]
  exact ⟨fun hm=>by have:=h.lt_key hm;omega,h.keys⟩
 ·rcases List.mem_cons.1 hy with hy|hy
  ·cases hy;exact ⟨by simp,(h.fresh _ (Nat.le_refl _)).1,(h.fresh _ (Nat.le_refl _)).2,hr⟩
  ·exact (h.holds q y hy).agree h le (fun b _=>⟨rfl,rfl,fun _=>rfl⟩) (fun _ _ e=>e) (fun q a b c d=>⟨by show q < G.lim+1;omega,b,c,d⟩)
 ·simp only [keys,List.map_cons,List.mem_cons] at hq
  rcases hq with rfl|hq
  ·exact .inr (Nat.le_refl _)
  ·exact .inl hq
theorem drawVoid {P:Program} {n id:Nat} {ops:Array Oper} {Q:HExit→Fr→HS→Prop} {a:Fr} {s:HS} (h:∀ r,r∉keys s→DrawReg P n id ops Q a ((r,.void)::s)):DrawReg P n id ops Q a s:=
 ⟨⟨fun G w ra hs hf=>by
  have hp:=post_void hs
  exact (h G.lim (fun hm=>by have:=hs.lt_key hm;omega)).out.lift hs hp (hf.mono hp.ext.le)⟩⟩
theorem newAs_ok (P:Program) {s:HS} {G:Ghost} {w:World} {r:Nat} (hs:SRel G ((r,.void)::s) w) (t:TypeId) {x:HV} {u:Value} (hx:rel G x u) (hk:kdOk x=true) :
  Gives ((r,.void)::s) G w ((do pure (Next.value (←(do pure (Value.pointer (some (←newVar t u)))))):Sem Next).run P w) (.ptr r 0) ((r,.cells x.cells t)::s):=by
 have hc:=rel_cells hx (kdOk_ne hk)
 have hp:Post ((r,.void)::s) G w ((r,.cells x.cells t)::s) (G.newAs r w.heap.size) (World.pushed w (.cells u.cells t)):=by
  refine post_newAs hs _ _ ⟨w.heap.size,u.cells,by simp [Ghost.newAs],by simp [Ghost.newAs],pushed_new w _,?_,fun o=>hs.K_new (Nat.le_refl _) o⟩
  exact relCs.mono (newAs_le hs _) _ _ hc
 refine ⟨.pointer (some ⟨w.heap.size,0,none⟩),World.pushed w (.cells u.cells t),G.newAs r w.heap.size,.inl ?_,ptr_rel (by simp [Ghost.newAs]),hp⟩
 simp [newVar,newRow,Go.newObj,Sem.run,World.pushed]
end
end Go.Proofs.Hk

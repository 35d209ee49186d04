import Derived.Test.YtbdpdhnglnhlhaaGreatDoorH15
import Derived.Scope
import Derived.Recover
set_option linter.unusedSimpArgs false
set_option linter.unusedVariables false
set_option linter.unusedVariables false
set_option linter.unusedSimpArgs false
namespace Go.Proofs.Hk
noncomputable section
open Go
/-! Results that stand in cells. -/
structure LoadIs (c:Cx) (s:HS) (t:TypeId) (r off:Nat) (K:HV→Prop):Prop where
 out:∃ cs t' d,hget s r=some (.cells cs t')∧c.ty t=some d∧((d.isAgg=true∧off+d.size≤cs.length∧K (.agg ((cs.drop off).take d.size)))∨(d.isAgg=false∧∃ x,cs[off]? = some x∧kdOne x=true∧K x))
theorem LoadIs.id {c:Cx} {s:HS} {t:TypeId} {r off:Nat} {K:HV→Prop} (h:LoadIs c s t r off K):LoadIs c s t r off K:=h
theorem LoadIs.agg {c:Cx} {s:HS} {t:TypeId} {r off:Nat} {K:HV→Prop} {cs:List HV} {t':TypeId} {d:TyD} (hg:HGet s r (.cells cs t')) (hd:c.ty t=some d) (ha:d.isAgg=true) (hl:Nat.ble (off+d.size) cs.length=true) (k:K (.agg ((cs.drop off).take d.size))):LoadIs c s t r off K:=
 ⟨cs,t',d,hg.eq,hd,.inl ⟨ha,Nat.le_of_ble_eq_true hl,k⟩⟩
theorem LoadIs.one {c:Cx} {s:HS} {t:TypeId} {r off:Nat} {K:HV→Prop} {cs:List HV} {t':TypeId} {d:TyD} {x:HV} (hg:HGet s r (.cells cs t')) (hd:c.ty t=some d) (ha:d.isAgg=false) (hx:cs[off]? = some x) (hk:kdOne x=true) (k:K x):LoadIs c s t r off K:=
 ⟨cs,t',d,hg.eq,hd,.inr ⟨ha,x,hx,hk,k⟩⟩
/-- What a function's results are, one by one. -/
def resG (c:Cx) (a:Fr) (s:HS):List ResultVar→(List HV→Prop)→Prop
 |[],K=>K []
 |.tmp t::l,K=>∃ x,a.get t=some (.sure,x)∧resG c a s l fun xs=>K (x::xs)
 |.cell p t::l,K=>∃ r off,a.get p=some (.sure,.ptr r off)∧LoadIs c s t r off fun y=>resG c a s l fun xs=>K (y::xs)
structure ResG (c:Cx) (a:Fr) (s:HS) (l:List ResultVar) (K:List HV→Prop):Prop where
 out:resG c a s l K
section
variable {c:Cx} {a:Fr} {s:HS} {l:List ResultVar} {K:List HV→Prop}
theorem ResG.nil (k:K []):ResG c a s [] K:=⟨k⟩
theorem ResG.tmp {t:Tmp} {x:HV} (h:a.get t=some (.sure,x)) (k:ResG c a s l fun xs=>K (x::xs)):ResG c a s (.tmp t::l) K:=⟨⟨x,h,k.out⟩⟩
theorem ResG.cell {p:Tmp} {t:TypeId} {r off:Nat} (h:a.get p=some (.sure,.ptr r off)) (k:LoadIs c s t r off fun y=>ResG c a s l fun xs=>K (y::xs)):ResG c a s (.cell p t::l) K:=⟨⟨r,off,h,by
 obtain ⟨cs,t',d,h1,h2,h3⟩:=k
 refine ⟨cs,t',d,h1,h2,?_⟩
 rcases h3 with ⟨a1,a2,a3⟩|⟨a1,x,a2,a3,a4⟩
 ·exact .inl ⟨a1,a2,a3.out⟩
 ·exact .inr ⟨a1,x,a2,a3,a4.out⟩⟩⟩
theorem ResG.id (h:ResG c a s l K):ResG c a s l K:=h
end
theorem loadIs_ok {c:Cx} {s:HS} {G:Ghost} {w:World} (hs:SRel G s w) {t:TypeId} {r off:Nat} {u:Value} (hp:rel G (.ptr r off) u) {K:HV→Prop} (h:LoadIs c s t r off K) :
  ∃ y v,(do loadVar t (←asAddr u):Sem Value).run c.P w = .ok v w∧rel G y v∧K y:=by
 obtain ⟨b,ho,rfl⟩:=rel_ptr hp
 obtain ⟨cs,t',d,hg,hd,h⟩:=h
 have ht:=c.ty_ok t d hd
 obtain ⟨b',vs,ho',ro,hb,hcs,hK⟩:=hs.holds r _ (hget_mem hg)
 rw [ho] at ho'
 cases ho'
 have hlen:=relCs_length hcs
 have hrun:∀ v,(loadVar t ⟨b,off,none⟩).run c.P w = .ok v w→(do loadVar t (←asAddr (.pointer (some ⟨b,off,none⟩))):Sem Value).run c.P w = .ok v w:=fun v h=>h
 rcases h with ⟨ha,hl,k⟩|⟨ha,x,hx,hk,k⟩
 ·have hseg:=relCs_take d.size (relCs_drop off hcs)
  refine ⟨_,_,hrun _ (run_loadVar_agg (xs:=(vs.toList.drop off).take d.size) ht ha ?_ ?_),rel_agg hseg,k⟩
  ·simp only [List.length_take,List.length_drop];omega
  ·intro j hj
   have hj':j < d.size:=by simp only [List.length_take] at hj;omega
   simp only [World.cell?,hb,Option.isSome_none,Bool.false_eq_true,if_false]
   rw [List.getElem?_take_of_lt hj',List.getElem?_drop,Array.getElem?_toList]
 ·obtain ⟨v,hv,_,hr⟩:=relCs_get hcs off x hx
  exact ⟨x,v,hrun _ (run_loadVar_one ht ha (by simp only [World.cell?,hb,Option.isSome_none,Bool.false_eq_true,if_false];rw [←Array.getElem?_toList];exact hv)),rel_leaf hr (kdOne_eq hk),k⟩
theorem resG_ok {c:Cx} {n:Nat} {a:Fr} {ra:Act} {s:HS} {G:Ghost} {w:World} (hs:SRel G s w) (hf:FRel G n a ra):∀ {rs:List ResultVar} {K:List HV→Prop},resG c a s rs K→
  ∃ us xs,(rs.mapM (rdRes ra.tmps):Sem (List Value)).run c.P w = .ok us w∧relVs G xs us∧K xs
 |[],K,h=>⟨[],[],rfl,by simp [relVs],h⟩
 |.tmp t::l,K,⟨x,e,k⟩=>by
  obtain ⟨us,xs,h1,h2,h3⟩:=resG_ok hs hf k
  obtain ⟨_,hr⟩:=hf.slots t _ _ e
  exact ⟨ra.tmps.getD t undef::us,_::xs,by simp only [List.mapM_cons,rdRes,Sem.run_bind,Sem.run_pure,Result.andThen_ok,h1],by rw [relVs_cons];exact ⟨_,_,rfl,hr,h2⟩,h3⟩
 |.cell p t::l,K,⟨r,off,e,k⟩=>by
  obtain ⟨_,hr⟩:=hf.slots p _ _ e
  have hr:rel G _ _:=hr
  obtain ⟨y,u,hy,hu,k⟩:=loadIs_ok hs hr k
  obtain ⟨us,xs,h1,h2,h3⟩:=resG_ok hs hf k
  have hy:(rdRes ra.tmps (.cell p t)).run c.P w = .ok u w:=hy
  exact ⟨u::us,y::xs,by simp only [List.mapM_cons,Sem.run_bind,hy,Sem.run_pure,Result.andThen_ok,h1],by rw [relVs_cons];exact ⟨_,_,rfl,hu,h2⟩,h3⟩
def tupOf:List HV→HV
 |[x]=>x
 |l=>.tup l
structure BodyR (c:Cx) (rs:List ResultVar) (R:HEnd→HS→Prop) (e:HExit) (a:Fr) (s:HS):Prop where
 out:match e with
  |.pan x=>R (.pan x) s
  |.exit _=>False
  |_=>resG c a s rs fun xs=>Fin (R (.ret (tupOf xs)) s)
section
variable {c:Cx} {rs:List ResultVar} {R:HEnd→HS→Prop} {a:Fr} {s:HS}
theorem BodyR.ret (h:ResG c a s rs fun xs=>Fin (R (.ret (tupOf xs)) s)):BodyR c rs R .ret a s:=⟨h.out⟩
theorem BodyR.go (h:BodyR c rs R .ret a s):BodyR c rs R .normal a s:=⟨h.out⟩
theorem BodyR.pan {v:HV} (h:Fin (R (.pan v) s)):BodyR c rs R (.pan v) a s:=⟨h.out⟩
theorem BodyR.id {e:HExit} (h:BodyR c rs R e a s):BodyR c rs R e a s:=h
end
theorem sem_calls' (c:Cx) {f:FuncId} {fn:Func} {code:Code} {args:List HV} {a:Fr} {s:HS} {R:HEnd→HS→Prop} (hf:c.P.funcs[f]? = some fn) (hb:fn.body=some code) (hn:Nat.ble args.length fn.ntmps=true) (ha:initFr args 0=a)
  (h:SemWp c.P fn.ntmps code (BodyR c fn.results.toList R) a s):HCalls c.P f args s R:=
 HCalls.of_df fun G w vs hdf hs hargs=>by
  subst ha
  have hl:=relVs_length hargs
  have hn:=Nat.le_of_ble_eq_true hn
  have hsz:vs.size=args.length:=by simpa using hl
  refine calls_of_wpB hf hb (wpB_mono (h.out G w _ hs ⟨by simp;omega,hdf.symm,fun t g x e=>?_⟩) fun e ra' w' ⟨he,a',s',G',q,hr,hf',hp⟩=>?_)
  ·obtain ⟨rfl,i,rfl,hx⟩:=initFr_get args 0 t g x e
   obtain ⟨u,hu,hr⟩:=relVs_get hargs i x hx
   have hi:i < args.length:=(List.getElem?_eq_some_iff.1 hx).1
   refine ⟨by omega,?_⟩
   have:(vs ++ Array.replicate (fn.ntmps - vs.size) undef).getD (0+i) undef=u:=by
    rw [Nat.zero_add,Array.getD_eq_getD_getElem?,Array.getElem?_append_left (by omega)]
    have:vs[i]? = some u:=by simpa using hu
    rw [this];rfl
   rw [this]
   exact hr
  ·have fin:resG c a' s' fn.results.toList (fun xs=>Fin (R (.ret (tupOf xs)) s'))→ra'.defers=[]∧∃ v,(results fn ra'.tmps).run c.P w' = .ok v w'∧∃ he s' G',R he s'∧endRel G' he (.returned v)∧Post s G w s' G' w':=by
    intro hm
    refine ⟨hf'.defers.trans (hp.ext.le.df.trans hdf),?_⟩
    obtain ⟨us,xs,h1,h2,h3⟩:=resG_ok hp.srel hf' hm
    have hus:=relVs_length h2
    have hrun:(fn.results.mapM (rdRes ra'.tmps):Sem (Array Value)).run c.P w' = .ok us.toArray w':=by
     rw [←Array.toArray_toList (xs:=fn.results),List.mapM_toArray,Sem.run_map]
     rw [h1];rfl
    have hres:(results fn ra'.tmps).run c.P w' = .ok (if h:us.toArray.size=1 then us.toArray[0] else .tuple us.toArray) w':=by
     rw [results_eq,Sem.run_bind,hrun]
     rfl
    match xs,h3,h2,hus with
    |[x],h3,h2,hus=>
     simp only [relVs_cons] at h2
     obtain ⟨u,us',rfl,hr1,hr2⟩:=h2
     simp only [relVs] at hr2
     subst hr2
     exact ⟨u,hres,_,s',G',h3.out,hr1,hp⟩
    |[],h3,h2,hus=>
     simp only [relVs] at h2
     subst h2
     exact ⟨_,hres,_,s',G',h3.out,(show rel G' (.tup []) (.tuple [].toArray) from tup_rel (by simp [relVs])),hp⟩
    |x::y::l,h3,h2,hus=>
     have hne:¬ us.toArray.size=1:=by simp at hus ⊢;omega
     rw [dif_neg hne] at hres
     exact ⟨_,hres,_,s',G',h3.out,tup_rel h2,hp⟩
   have q:=q.out
   cases he with
   |normal=>cases e<;>first|exact hr.elim|exact fin q
   |ret=>cases e<;>first|exact hr.elim|exact fin q
   |exit i=>exact q.elim
   |pan x=>
    cases e<;>first|exact hr.elim|skip
    exact ⟨hf'.defers.trans (hp.ext.le.df.trans hdf),.pan x,s',G',q,hr,hp⟩
theorem newB {e:Bool→Prop} {F:Bool→Prop} (h:∀ b,e b→F b):∀ b,e b→F b:=h
/-- What tells less, part by part. -/
inductive WeakerC:List HV→List HV→Prop
 |nil:WeakerC [] []
 |cons {x y:HV} {l m:List HV} (h:Weaker x y) (hy:y.kd = .one) (k:WeakerC l m):WeakerC (x::l) (y::m)
theorem WeakerC.rel {l m:List HV} (h:WeakerC l m) {G:Ghost} : ∀ {us:List Value},relCs G l us→relCs G m us:=by
 induction h with
 |nil=>exact fun h=>h
 |cons h hy _ ih=>
  intro us hu
  simp only [relCs] at hu ⊢
  obtain ⟨u,us',rfl,⟨h1,h2⟩,h3⟩:=hu
  have:=leaf_of (h G u (rel_leaf h2 h1)) hy
  exact ⟨u,us',rfl,⟨hy,this.1⟩,ih h3⟩
theorem Weaker.agg {l m:List HV} (h:WeakerC l m):Weaker (.agg l) (.agg m):=fun G u hu=>by
 obtain ⟨us,rfl,hv⟩:=rel_agg_inv4 hu
 have:=rel_agg (h.rel hv)
 simpa using this
theorem Weaker.eq {x y:HV} (h:x=y):Weaker x y:=h ▸ .refl x
theorem Weaker.full (sz:Nat) (l:List HV):Weaker (.list .full sz l) (.list .no sz l):=Weaker.tok _ _ _
/-- The end: what is told, weakened. -/
theorem Fin.weak {x y:HV} (h:Weaker y x):Fin (∃ z,HEnd.ret y = .ret z∧Weaker z x):=⟨y,rfl,h⟩
theorem Fin.weakS {x y:HV} {s s2:HS} (h:Weaker y x) (k:Subp s2 s):Fin (∃ z,HEnd.ret y = .ret z∧Weaker z x∧Subp s2 s):=⟨y,rfl,h,k⟩
theorem grow_split {ys:List HV} {X Y:Prop} (h1:ys=[]→X) (h2:ys≠[]→Y):match (generalizing:=false) ys with
  |[]=>X
  |_=>Y:=by
 cases ys with
 |nil=>exact h1 rfl
 |cons y l=>exact h2 (by simp)
section
variable {c:Cx} {n:Nat} {g:Tag} {dst:Option Tmp} {K:Fr→HS→Prop} {Q:HExit→Fr→HS→Prop} {a:Fr} {s:HS}
theorem Stp.isSumU {x:Int} (k:Stp c n g dst K Q (.pure (.v (.int .u64 (IntKind.u64.wrap x)))) a s):Stp c n g dst K Q (.pure (.v (.int .u64 (IntKind.u64.wrap x)))) a s:=k
theorem Stp.sumU {x:Int} (k:Stp c n g dst K Q (.pure (.v (.int .u64 x))) a s) (hw:0≤x∧x≤18446744073709551615:=by omega):Stp c n g dst K Q (.pure (.v (.int .u64 (IntKind.u64.wrap x)))) a s:=by rw [IntWalk.u64_in x hw];exact k
theorem Stp.isSum3 {x:Int} (k:Stp c n g dst K Q (.pure (.v (.int .u32 (IntKind.u32.wrap x)))) a s):Stp c n g dst K Q (.pure (.v (.int .u32 (IntKind.u32.wrap x)))) a s:=k
theorem Stp.sum3 {x:Int} (k:Stp c n g dst K Q (.pure (.v (.int .u32 x))) a s) (hw:0≤x∧x≤4294967295:=by omega):Stp c n g dst K Q (.pure (.v (.int .u32 (IntKind.u32.wrap x)))) a s:=by rw [IntWalk.u32_in x hw];exact k
end
section
variable {c:Cx} {n:Nat} {t:HS} {g:Tag} {dst:Option Tmp} {K:Fr→Prop} {a:Fr}
theorem DStp.isSumU {x:Int} (k:DStp c n t g dst K (.pure (.v (.int .u64 (IntKind.u64.wrap x)))) a):DStp c n t g dst K (.pure (.v (.int .u64 (IntKind.u64.wrap x)))) a:=k
theorem DStp.sumU {x:Int} (k:DStp c n t g dst K (.pure (.v (.int .u64 x))) a) (hw:0≤x∧x≤18446744073709551615:=by omega):DStp c n t g dst K (.pure (.v (.int .u64 (IntKind.u64.wrap x)))) a:=by rw [IntWalk.u64_in x hw];exact k
theorem DStp.isSum3 {x:Int} (k:DStp c n t g dst K (.pure (.v (.int .u32 (IntKind.u32.wrap x)))) a):DStp c n t g dst K (.pure (.v (.int .u32 (IntKind.u32.wrap x)))) a:=k
theorem DStp.sum3 {x:Int} (k:DStp c n t g dst K (.pure (.v (.int .u32 x))) a) (hw:0≤x∧x≤4294967295:=by omega):DStp c n t g dst K (.pure (.v (.int .u32 (IntKind.u32.wrap x)))) a:=by rw [IntWalk.u32_in x hw];exact k
end
theorem TStp.upd {c:Cx} {n:Nat} {m t:HS} {dst:Option Tmp} {K:Fr→HS→Prop} {a:Fr} {r:Nat} {cs ys l:List HV} {off k:Nat} {t':TypeId} {x:HV} (m':HS) (hl:Nat.ble (off+k) cs.length=true) (e:cs.take off ++ ys ++ cs.drop (off+k)=l) (h:HsetIs (m ++ t) r (.cells l t') (m' ++ t)) (hk:PutD n dst .sure (fun a'=>K a' m') a x):TStp c n m t dst K (.eff fun L=>Upd cs off k ys fun l=>L x (hset (m ++ t) r (.cells l t'))) a:=
 TStp.eff m' ⟨Nat.le_of_ble_eq_true hl,rfl,by rw [e];exact h.eq⟩ hk
/-- What is told of an argument may be told of one of which more is known. -/
theorem Pur.arg {c:Cx} {f:FuncId} {x y z:HV} (h:Pur c f [x] z) (hw:Weaker y x):Pur c f [y] z:=
 ⟨⟨fun G w vs hs ha=>h.out.out G w vs hs (by
  simp only [relVs_cons] at ha ⊢
  obtain ⟨u,us,e,h1,h2⟩:=ha
  exact ⟨u,us,e,hw G u h1,h2⟩)⟩⟩
theorem Pur.args {c:Cx} {f:FuncId} {xs ys:List HV} {z:HV} (h:Pur c f xs z) (hw:WeakerL ys xs):Pur c f ys z:=
 ⟨⟨fun G w vs hs ha=>h.out.out G w vs hs (hw.relVs ha)⟩⟩
theorem Stp.rwB {c:Cx} {n:Nat} {g:Tag} {dst:Option Tmp} {K:Fr→HS→Prop} {Q:HExit→Fr→HS→Prop} {a:Fr} {s:HS} {b b':Bool} (e:b=b') (k:Stp c n g dst K Q (.pure (.v (.bool b'))) a s):Stp c n g dst K Q (.pure (.v (.bool b))) a s:=by subst e;exact k
theorem DStp.rwB {c:Cx} {n:Nat} {t:HS} {g:Tag} {dst:Option Tmp} {K:Fr→Prop} {a:Fr} {b b':Bool} (e:b=b') (k:DStp c n t g dst K (.pure (.v (.bool b'))) a):DStp c n t g dst K (.pure (.v (.bool b))) a:=by subst e;exact k
end
end Go.Proofs.Hk

set_option linter.unusedVariables false
namespace Go.Proofs.Hk
noncomputable section
open Go
/-! Less may be known of a state. -/
theorem SemWp.wk {P:Program} {n:Nat} {code:Code} {Q:HExit→Fr→HS→Prop} {a:Fr} {s s':HS} (hsr:∀ G w,SRel G s w→SRel G s' w) (hk:∀ r,r∈keys s'→r∈keys s) (h:SemWp P n code Q a s'):SemWp P n code Q a s:=
 ⟨fun G w ra hs hf=>wpB_mono (h.out G w ra (hsr G w hs) hf) fun _ _ _ ⟨he,a',s1,G',q,hr,hf',hp⟩=>by
  refine ⟨he,a',s1,G',q,hr,hf',hp.srel,?_,fun r hr=>?_⟩
  ·exact ⟨hp.ext.le,hp.ext.size,fun b hb hq=>hp.ext.blocks b hb (fun r e hk'=>hq r e (hk r hk')),fun r tp e hq=>hp.ext.tops r tp e (fun hk'=>hq (hk r hk')),hp.ext.lim,hp.ext.os,hp.ext.tape,hp.ext.output,fun r h0 hk'=>hp.ext.voids r h0 (fun h=>hk' (hk r h))⟩
  ·exact (hp.names r hr).imp (hk r) (fun h=>h)⟩
theorem SRel.wkCell {G:Ghost} {w:World} {r:Nat} {cs cs':List HV} {t:TypeId} {s:HS} (h:SRel G ((r,.cells cs t)::s) w) (hw:WeakerC cs cs'):SRel G ((r,.cells cs' t)::s) w:=by
 refine ⟨h.kw,h.keys,fun q x hx=>?_,h.fresh,h.role⟩
 rcases List.mem_cons.1 hx with e|hx
 ·cases e
  obtain ⟨b,vs,e1,ro,hh,hc,hK⟩:=h.holds r _ List.mem_cons_self
  exact ⟨b,vs,e1,ro,hh,hw.rel hc,hK⟩
 ·exact h.holds q x (List.mem_cons_of_mem _ hx)
theorem sem_wkCell (c:Cx) {n:Nat} {code:Code} {Q:HExit→Fr→HS→Prop} {a:Fr} {s s0:HS} (r:Nat) {cs:List HV} (cs':List HV) {t:TypeId} (hp:HPick s r (.cells cs t) s0) (hw:WeakerC cs cs') (h:SemWp c.P n code Q a ((r,.cells cs' t)::s0)):SemWp c.P n code Q a s:=
 SemWp.wk (fun G w hs=>(hs.permd hp.perm.symm).wkCell hw) (fun q hq=>by
  have e:keys ((r,Res.cells cs' t)::s0)=keys ((r,Res.cells cs t)::s0):=rfl
  rw [e] at hq
  obtain ⟨y,hy,rfl⟩:=List.mem_map.1 hq
  exact List.mem_map.2 ⟨y,hp.perm.mem_iff.1 hy,rfl⟩) h
/-- Less may be known of a value in a frame. -/
theorem sem_wkFr (c:Cx) {n:Nat} {code:Code} {Q:HExit→Fr→HS→Prop} {a:Fr} {s:HS} (t:Nat) {x:HV} (y:HV) (ha:a.get t=some (.sure,x)) (hw:Weaker x y) (h:SemWp c.P n code Q ((t,.sure,y)::a) s):SemWp c.P n code Q a s:=
 ⟨fun G w ra hs hf=>h.out G w ra hs ⟨hf.size,hf.defers,fun t' g z e=>by
  simp only [Fr.get] at e
  split at e
  ·rename_i ht
   have:=Nat.eq_of_beq_eq_true ht
   subst this
   cases e
   obtain ⟨h1,h2⟩:=hf.slots t _ _ ha
   exact ⟨h1,hw G _ h2⟩
  ·exact hf.slots t' g z e⟩⟩
end
end Go.Proofs.Hk

set_option linter.unusedSimpArgs false
set_option linter.unusedVariables false
namespace Go.Proofs.Hk
noncomputable section
open Go Go.Proofs
theorem Weaker.at {x y:HV} (h:Weaker x y) (hk:x.kd≠.tup) {G:Ghost} {cs:List Value} (hr:relC G x cs):y.kd≠.tup∧relC G y cs:=by
 cases hx:x.kd with
 |one=>
  obtain ⟨u,rfl,hu⟩:=relC_one hr hx
  obtain ⟨h1,h2⟩:=h G u (rel_leaf hr hx)
  rw [vkd_one hu] at h2
  exact ⟨by rw [h1,hu];simp,h2⟩
 |agg=>
  obtain ⟨h1,h2⟩:=h G (.agg cs.toArray) ⟨by rw [hx];rfl,by simpa [Value.cells] using hr⟩
  exact ⟨by rw [h1];simp [vkd],by simpa [Value.cells] using h2⟩
 |tup=>exact absurd hx hk
/-- Rows whose elements tell less. -/
inductive WeakerA:List HV→List HV→Prop
 |nil:WeakerA [] []
 |cons {x y:HV} {l m:List HV} (h:Weaker x y) (hx:x.kd≠.tup) (k:WeakerA l m):WeakerA (x::l) (y::m)
theorem WeakerA.len {l m:List HV} (h:WeakerA l m):l.length=m.length:=by
 induction h with
 |nil=>rfl
 |cons _ _ _ ih=>simp [ih]
theorem WeakerA.ats {l m:List HV} (h:WeakerA l m) {G:Ghost} {rd:Nat→Option Value} {sz:Nat} : ∀ {o:Nat},relAts G l rd o sz→relAts G m rd o sz:=by
 induction h with
 |nil=>exact fun h=>h
 |cons h hx _ ih=>
  intro o hr
  simp only [relAts] at hr ⊢
  obtain ⟨⟨cs,h1,h2,h3,h4⟩,h5⟩:=hr
  obtain ⟨k1,k2⟩:=h.at h2 h4
  exact ⟨⟨cs,h1,k1,h3,k2⟩,ih h5⟩
theorem Weaker.list {t:Tok} {sz:Nat} {l m:List HV} (h:WeakerA l m):Weaker (.list t sz l) (.list .no sz m):=fun G u hu=>by
 have hl:=h.len
 rcases (rel_list hu).imp id or_comm.1 with ⟨rfl,rfl,_⟩|⟨rfl,_,a,rfl⟩|⟨b,o,c,rfl,h1,h2,_⟩
 ·cases h;exact list_rel_nil trivial
 ·cases h;exact list_rel_odd a (fun _ _=>by simp)
 ·rw [hl] at h1 ⊢
  exact list_rel h1 (h.ats h2) trivial
end
end Go.Proofs.Hk

namespace Go.Proofs.Hk
noncomputable section
open Go
/-- A row that whoever may append to gets an owner. -/
theorem sem_full_own (c:Cx) {n:Nat} {code:Code} {Q:HExit→Fr→HS→Prop} {a:Fr} {s:HS} {l:List HV} (t sz:Nat) (hl:l≠[]) (ha:a.get t=some (.sure,.list .full sz l)) (h:∀ r,r∉keys s→SemWp c.P n code Q ((t,.sure,.list (.own r 0) sz l)::a) ((r,.tok l.length)::s)):SemWp c.P n code Q a s:=
 ⟨fun G w ra hs hf=>by
  let G':Ghost:={ G with top:=fun q=>if q=G.lim then some ⟨l.length,0,0,0⟩ else G.top q,lim:=G.lim+1}
  have le:G.Le G':=⟨fun _ _ _ e=>e,fun _ _ e=>e,fun q tp e=>by
   have:=hs.lt_top e
   simp only [G']
   rw [if_neg (by omega)]
   exact ⟨tp,e,Nat.le_refl _,fun _=>rfl⟩,rfl⟩
  have post:Post s G w ((G.lim,.tok l.length)::s) G' w:=by
   refine ⟨⟨hs.kw,?_,fun r x hx=>?_,fun r hr=>?_,fun b r e=>?_⟩,⟨le,Nat.le_refl _,fun _ _ _=>⟨rfl,rfl,fun _=>rfl⟩,fun r tp e _=>?_,by simp [G'],rfl,rfl,rfl,fun r h0 _ h1 h2 h3=>⟨h1,by simp only [G'];rw [if_neg (by omega)];exact h2,h3⟩⟩,fun r hr=>?_⟩
   ·simp only [keys,List.map_cons,List.nodup_cons]
    exact ⟨fun hm=>by have:=hs.lt_key hm;omega,hs.keys⟩
   ·rcases List.mem_cons.1 hx with hx|hx
    ·cases hx
     exact ⟨⟨l.length,0,0,0⟩,by simp [G'],rfl,fun h=>by simp at h⟩
    ·exact (hs.holds r x hx).agree hs le (fun b _=>⟨rfl,rfl,fun _=>rfl⟩) (fun q tp e=>by
      have:=hs.lt_top e
      simp only [G']
      rw [if_neg (by omega)];exact e) (fun r h0 h1 h2 h3=>⟨by simp only [G'];omega,h1,by simp only [G'];rw [if_neg (by omega)];exact h2,h3⟩)
   ·simp only [G'] at hr ⊢
    rw [if_neg (by omega)]
    exact hs.fresh r (by omega)
   ·have:=hs.role b r e
    simp only [G'];omega
   ·have:=hs.lt_top e
    simp only [G']
    rw [if_neg (by omega)];exact e
   ·simp only [keys,List.map_cons,List.mem_cons] at hr
    rcases hr with rfl|hr
    ·exact .inr (Nat.le_refl _)
    ·exact .inl hr
  obtain ⟨h1,h2⟩:=hf.slots t _ _ ha
  have hw:=h G.lim (fun hm=>by have:=hs.lt_key hm;omega)
  refine hw.lift hs post ⟨hf.size,hf.defers.trans le.df.symm,fun t' g x e=>?_⟩
  simp only [Fr.get] at e
  split at e
  ·rename_i ht
   have:=Nat.eq_of_beq_eq_true ht
   subst this
   cases e
   refine ⟨h1,?_⟩
   obtain ⟨k,hr⟩:=h2
   refine ⟨k,?_⟩
   have hr:=relC.mono le _ _ hr
   simp only [relC] at hr ⊢
   rcases hr with ⟨e,_⟩|⟨b,o,c,e1,e2,e3,e4⟩|⟨e,_⟩
   ·exact absurd e hl
   ·refine .inr (.inl ⟨b,o,c,e1,e2,e3,⟨l.length,0,0,0⟩,by simp [G'],by show 0+l.length≤l.length;omega,fun _=>.inr ⟨rfl,e4⟩⟩)
   ·exact absurd e hl
  ·exact ⟨(hf.slots t' g x e).1,(hf.slots t' g x e).2.mono le⟩⟩
/-- A loop whose state is told by four things. -/
theorem sem_loop4 (c:Cx) {n:Nat} {b:Code} {Q:HExit→Fr→HS→Prop} {a:Fr} {s:HS} {β γ δ:Type} (J:Nat→β→γ→δ→Prop) (F:Nat→β→γ→δ→Fr) (S:Nat→β→γ→δ→HS) (μ:Nat→Nat) (i0:Nat) (b0:β) (c0:γ) (d0:δ) (hJ:J i0 b0 c0 d0) (hF:(F i0 b0 c0 d0).Sub a) (hS:Subp (S i0 b0 c0 d0) s)
  (round:∀ i x y z,J i x y z→SemWp c.P n b (hround (fun a s=>∃ i' x' y' z',J i' x' y' z'∧μ i' < μ i∧(F i' x' y' z').Sub a∧Subp (S i' x' y' z') s) Q) (F i x y z) (S i x y z)):SemWp c.P n (.loop b) Q a s:=
 sem_loop c (ι:=Nat × β × γ × δ) (fun q=>J q.1 q.2.1 q.2.2.1 q.2.2.2) (fun q=>F q.1 q.2.1 q.2.2.1 q.2.2.2) (fun q=>S q.1 q.2.1 q.2.2.1 q.2.2.2) (fun q=>μ q.1) (i0,b0,c0,d0) hJ hF hS fun q hq=>(round q.1 q.2.1 q.2.2.1 q.2.2.2 hq).mono fun e a s q=>by
  cases e with
  |normal=>
   obtain ⟨⟨i',x',y',z',h⟩⟩:=q
   exact ⟨⟨(i',x',y',z'),h⟩⟩
  |exit j=>exact q
  |ret=>exact q
  |pan x=>exact q
/-- A scope that is left by no jump. -/
theorem sem_scope {c:Cx} {n:Nat} {b:Code} {Q:HExit→Fr→HS→Prop} {a:Fr} {s:HS} (h:SemWp c.P n b Q a s):SemWp c.P n (.scope b) Q a s:=
 ⟨fun G w ra hs hf=>wpB_scope (wp_mono (h.out G w ra hs hf).wp fun e ra' w' ⟨he,a',s',G',q,hr,k⟩=>by
  cases e with
  |goto l=>cases he<;>exact hr.elim
  |_=>exact ⟨he,a',s',G',q,hr,k⟩)⟩
/-- A drawn region's append to a row of one's own. -/
theorem TStp.app {c:Cx} {n:Nat} {m t:HS} {dst:Option Tmp} {K:Fr→HS→Prop} {a:Fr} {i:Nat} {y:Res} {φ1 φ2:Prop} {x:HV} (m':HS) (h:HsetIs (m ++ t) i y (m' ++ t)) (hk:Side φ1 (Side φ2 (PutD n dst .sure (fun a'=>K a' m') a x))):TStp c n m t dst K (.eff fun L=>Side φ1 (Side φ2 (L x (hset (m ++ t) i y)))) a:=
 TStp.eff m' ⟨hk.1,hk.2.1,rfl,h.eq⟩ hk.2.2
end
end Go.Proofs.Hk

namespace Go.Proofs.Hk
noncomputable section
open Go
/-- A call that ends in a panic. -/
theorem callTP (c:Cx) {f:FuncId} {xs:List HV} {s1 s2 s t:HS} {v:HV} {K E:HV→HS→Prop} (h:HCalls c.P f xs s1 fun e st=>e = .pan v∧st=s2) (p:HTake s s1 t) (hk:forceL (s2 ++ t) (E v)):CallWp c f xs s K E:=
 callWp c (HCalls.use (t:=t) (R':=fun e st=>e = .pan v∧st=s2 ++ t) h (List.perm_append_comm.trans (List.perm_append_comm.trans p.perm)) fun e s3 ⟨h1,h2⟩=>⟨h1,by rw [h2]⟩) (fun x s' ⟨h1,_⟩=>by cases h1) (fun x s' ⟨h1,h2⟩=>by cases h1;rw [h2];rw [forceL_eq] at hk;exact hk)
/-- A contract that says all of what comes. -/
theorem HCalls.to {P:Program} {f:FuncId} {xs:List HV} {s S:HS} {r:HEnd} (h:HCalls P f xs s fun e st=>WeakerE e r∧Subp S st):HCalls P f xs s fun e st=>e=r∧st=S:=
 HCalls.weaken h fun e s1 ⟨h1,h2⟩=>⟨r,S,h1,h2,rfl,rfl⟩
theorem WeakerE.refl (e:HEnd):WeakerE e e:=by
 cases e with
 |ret x=>exact .ret (.refl _)
 |pan x=>exact .pan (.refl _)
/-- A new token, for a row that nobody has appended to yet. -/
theorem post_tok {G:Ghost} {s:HS} {w:World} (hs:SRel G s w) (n:Nat):∃ G':Ghost,G.Le G'∧G'.top G.lim=some ⟨n,0,0,0⟩∧Post s G w ((G.lim,.tok n)::s) G' w:=by
 let G':Ghost:={ G with top:=fun q=>if q=G.lim then some ⟨n,0,0,0⟩ else G.top q,lim:=G.lim+1}
 have le:G.Le G':=⟨fun _ _ _ e=>e,fun _ _ e=>e,fun q tp e=>by
  have:=hs.lt_top e
  simp only [G']
  rw [if_neg (by omega)]
  exact ⟨tp,e,Nat.le_refl _,fun _=>rfl⟩,rfl⟩
 have post:Post s G w ((G.lim,.tok n)::s) G' w:=by
  refine ⟨⟨hs.kw,?_,fun r x hx=>?_,fun r hr=>?_,fun b r e=>?_⟩,⟨le,Nat.le_refl _,fun _ _ _=>⟨rfl,rfl,fun _=>rfl⟩,fun r tp e _=>?_,by simp [G'],rfl,rfl,rfl,fun r h0 _ h1 h2 h3=>⟨h1,by simp only [G'];rw [if_neg (by omega)];exact h2,h3⟩⟩,fun r hr=>?_⟩
  ·simp only [keys,List.map_cons,List.nodup_cons]
   exact ⟨fun hm=>by have:=hs.lt_key hm;omega,hs.keys⟩
  ·rcases List.mem_cons.1 hx with hx|hx
   ·cases hx
    exact ⟨⟨n,0,0,0⟩,by simp [G'],rfl,fun h=>by simp at h⟩
   ·exact (hs.holds r x hx).agree hs le (fun b _=>⟨rfl,rfl,fun _=>rfl⟩) (fun q tp e=>by
     have:=hs.lt_top e
     simp only [G']
     rw [if_neg (by omega)];exact e) (fun r h0 h1 h2 h3=>⟨by simp only [G'];omega,h1,by simp only [G'];rw [if_neg (by omega)];exact h2,h3⟩)
  ·simp only [G'] at hr ⊢
   rw [if_neg (by omega)]
   exact hs.fresh r (by omega)
  ·have:=hs.role b r e
   simp only [G'];omega
  ·have:=hs.lt_top e
   simp only [G']
   rw [if_neg (by omega)];exact e
  ·simp only [keys,List.map_cons,List.mem_cons] at hr
   rcases hr with rfl|hr
   ·exact .inr (Nat.le_refl _)
   ·exact .inl hr
 exact ⟨G',le,by simp [G'],post⟩
theorem HCalls.nodup {P:Program} {f:FuncId} {xs:List HV} {s:HS} {R:HEnd→HS→Prop} (h:HCalls P f xs s R):HCalls P f xs s fun e st=>R e st∧(keys st).Nodup:=
 ⟨fun G w vs hs ha=>(h.out G w vs hs ha).mono fun _ _ ⟨he,s',G',hR,k,hp⟩=>⟨he,s',G',⟨hR,hp.srel.keys⟩,k,hp⟩⟩
/-- A call that tells a row of one's own. -/
abbrev ToOwn (P:Program) (f:FuncId) (xs:List HV) (s:HS) (sz:Nat) (l:List HV) (s2:HS):Prop:=HCalls P f xs s fun e st=>∃ rt,e = .ret (.list (.own rt 0) sz l)∧st=(rt,.tok l.length)::s2
theorem callTO (c:Cx) {f:FuncId} {xs:List HV} {s1 s2 s t:HS} {sz:Nat} {l:List HV} {K E:HV→HS→Prop} (h:ToOwn c.P f xs s1 sz l s2) (p:HTake s s1 t) (hk:∀ rt,rt∉keys (s2 ++ t)→forceL ((rt,.tok l.length)::(s2 ++ t)) (K (.list (.own rt 0) sz l))):CallWp c f xs s K E:=
 callWp c ((HCalls.use (t:=t) (R':=fun e st=>∃ rt,e = .ret (.list (.own rt 0) sz l)∧st=(rt,.tok l.length)::(s2 ++ t)) h (List.perm_append_comm.trans (List.perm_append_comm.trans p.perm)) fun e s3 ⟨rt,h1,h2⟩=>⟨rt,h1,by rw [h2];rfl⟩).nodup) (fun x s' ⟨⟨rt,h1,h2⟩,h3⟩=>by
  cases h1
  subst h2
  have:=hk rt (by simp only [keys,List.map_cons,List.nodup_cons] at h3;exact h3.1)
  rw [forceL_eq] at this
  exact this) (fun x s' ⟨⟨rt,h1,_⟩,_⟩=>by cases h1)
theorem HCalls.toOwn {P:Program} {f:FuncId} {xs:List HV} {s s2:HS} {sz:Nat} {l:List HV} (hl:l≠[]) (h:HCalls P f xs s fun e st=>(∃ rt,e = .ret (.list (.own rt 0) sz l)∧Subp ((rt,.tok l.length)::s2) st)∨(e = .ret (.list .full sz l)∧Subp s2 st)):ToOwn P f xs s sz l s2:=
 ⟨fun G w vs hs ha=>(h.out G w vs hs ha).mono fun e w' ⟨he,s1,G',hR,k,hp⟩=>by
  rcases hR with ⟨rt,rfl,hsub⟩|⟨rfl,hsub⟩
  ·exact ⟨_,_,G',⟨rt,rfl,rfl⟩,k,hsub.post hp⟩
  ·have hp1:=hsub.post hp
   obtain ⟨G2,le,ht,hp2⟩:=post_tok hp1.srel l.length
   refine ⟨.ret (.list (.own G'.lim 0) sz l),(G'.lim,.tok l.length)::s2,G2,⟨G'.lim,rfl,rfl⟩,?_,hp1.trans hs hp2⟩
   cases e with
   |returned u=>
    obtain ⟨k1,k2⟩:=k
    refine ⟨k1,?_⟩
    have hr:=relC.mono le _ _ k2
    simp only [relC] at hr ⊢
    rcases hr with ⟨e,_⟩|⟨b,o,c,e1,e2,e3,e4⟩|⟨e,_⟩
    ·exact absurd e hl
    ·exact .inr (.inl ⟨b,o,c,e1,e2,e3,⟨l.length,0,0,0⟩,ht,by show 0+l.length≤l.length;omega,fun _=>.inr ⟨rfl,e4⟩⟩)
    ·exact absurd e hl
   |_=>exact k.elim⟩
end
end Go.Proofs.Hk

set_option linter.unusedVariables false
namespace Go.Proofs.Hk
noncomputable section
open Go
/-! A region whose order is drawn, one operation of which panics. -/
section
variable (P:Program) (n:Nat) (ops:Array Oper) (t:HS) (E:List Nat)
/-- An operation that panics: with what, and what is turned. -/
def YPan (o:Oper) (g:GF) (m:HS) (x:HV) (m':HS):Prop:=
 ∀ G w ra,SRel G (m ++ t) w→FOn (o.looksAt ops) G n g ra→Region.wanted o (yielded ops ra.tmps)=true∧
  ∀ (next:Act→World→Prop) (Q:Exit→Act→World→Prop),(∀ u w' G',rel G' x u→Post (m ++ t) G w (m' ++ t) G' w'→Q (.panic [{ v:=u,recovered:=false}]) ra w')→Oper.wpY P o ra w next Q
theorem YPan.unput {o:Oper} {g:GF} {m m':HS} {x:HV} {dst:Option Tmp} {e':Tag × HV} (h:YPan P n ops t o (gput g dst e') m x m') (hd:∀ d,dst=some d→d∉o.looksAt ops):YPan P n ops t o g m x m':=by
 refine fun G w ra hs hf=>h G w ra hs ⟨hf.size,hf.defers,fun s hs' tg x eq=>hf.slots s hs' tg x ?_⟩
 cases dst with
 |none=>exact eq
 |some d=>
  simp only [gput] at eq
  rw [if_neg (fun hh:s=d=>hd d rfl (hh ▸ hs'))] at eq
  exact eq
variable (p:Nat) (dead:List Nat)
def marked (listed:Array Bool):Array Bool:=(p::dead).foldl (fun l i=>l.setIfInBounds i true) listed
theorem marked_get (l:Array Bool) (j:Nat):(marked p dead l)[j]? = if j < l.size∧(j=p∨j∈dead) then some true else l[j]?:=by
 unfold marked
 generalize hq:p::dead=q
 have key:∀ (q:List Nat) (l:Array Bool),(q.foldl (fun l i=>l.setIfInBounds i true) l)[j]? = if j < l.size∧j∈q then some true else l[j]?:=by
  intro q
  induction q with
  |nil=>intro l;simp
  |cons a q ih=>
   intro l
   rw [List.foldl_cons,ih]
   simp only [Array.size_setIfInBounds,List.mem_cons]
   by_cases hj:j < l.size
   ·by_cases ha:j=a
    ·subst ha
     simp [hj]
    ·simp only [hj,true_and,ha,false_or]
     rw [Array.getElem?_setIfInBounds_ne (Ne.symm ha)]
   ·simp [hj]
 rw [key,←hq]
 simp only [List.mem_cons]
theorem marked_set (l:Array Bool) {i:Nat} (h1:i≠p) (h2:i∉dead):marked p dead (l.setIfInBounds i true)=(marked p dead l).setIfInBounds i true:=by
 apply Array.ext_getElem?
 intro j
 rw [marked_get]
 simp only [Array.size_setIfInBounds]
 by_cases hj:j=i
 ·subst hj
  rw [if_neg (by rintro ⟨_,h|h⟩;exact h1 h;exact h2 h)]
  have hs:(marked p dead l).size=l.size:=by
   unfold marked
   have key:∀ (q:List Nat) (l:Array Bool),(q.foldl (fun l i=>l.setIfInBounds i true) l).size=l.size:=by
    intro q
    induction q with
    |nil=>intro l;rfl
    |cons a q ih=>intro l;rw [List.foldl_cons,ih,Array.size_setIfInBounds]
   exact key _ _
  by_cases hlt:j < l.size
  ·simp [hlt,hs]
  ·simp [hlt,hs]
 ·rw [Array.getElem?_setIfInBounds_ne (Ne.symm hj),Array.getElem?_setIfInBounds_ne (Ne.symm hj),marked_get]
variable (S:List Tmp)
/-- What such a region must be like. -/
def panB (po:Oper):Bool:=
 Nat.blt p ops.size && (List.range ops.size).all fun j=>match ops[j]? with
  |none=>true
  |some oj=>(oj.after.all fun e=>!Region.binds .any e||Nat.blt e.on j) &&
   (Nat.beq j p||(dead.contains j && oj.after.any fun e=>Region.binds .any e && (e.on == p||dead.contains e.on))||
    (!dead.contains j && (oj.after.all fun e=>!Region.binds .any e||(e.on != p && !dead.contains e.on)) &&
     ((po.after.any fun e=>Region.binds .any e && e.on == j)||(!E.contains j && match oj.dst with|some d=>!(po.looksAt ops).contains d|none=>true)) &&
     (match oj.dst with|some d=>!S.contains d|none=>true)))
structure PanOK (po:Oper):Prop where
 hp:ops[p]? = some po
 acyc:∀ j oj,ops[j]? = some oj→∀ e∈oj.after,Region.binds .any e=true→e.on < j
 kind:∀ j oj,ops[j]? = some oj→j=p∨(j∈dead∧∃ e∈oj.after,Region.binds .any e=true∧(e.on=p∨e.on∈dead))∨
  (j∉dead∧((∃ e∈po.after,Region.binds .any e=true∧e.on=j)∨(E.contains j=false∧∀ d,oj.dst=some d→d∉po.looksAt ops))∧∀ d,oj.dst=some d→d∉S)
theorem panB_ok {po:Oper} (hp:ops[p]? = some po) (h:panB ops E p dead S po=true):PanOK ops E p dead S po:=by
 simp only [panB,Bool.and_eq_true,List.all_eq_true,List.mem_range] at h
 have get:∀ j oj,ops[j]? = some oj→_:=fun j oj hj=>by
  have:=h.2 j (Array.getElem?_eq_some_iff.1 hj).1
  rw [hj] at this
  exact this
 refine ⟨hp,fun j oj hj e he hb=>?_,fun j oj hj=>?_⟩
 ·have:=(Bool.and_eq_true _ _ ▸ get j oj hj).1
  have:=Array.all_eq_true'.1 this e he
  simp only [hb,Bool.not_true,Bool.false_or,Nat.blt_eq] at this
  exact this
 ·have:=(Bool.and_eq_true _ _ ▸ get j oj hj).2
  simp only [Bool.or_eq_true,Bool.and_eq_true,Nat.beq_eq,List.contains_iff_mem,Array.any_eq_true',Bool.not_eq_true',beq_iff_eq] at this
  rcases this with (h1|⟨h1,e,he,hb,h2⟩)|⟨⟨⟨h1,_⟩,h3⟩,h4⟩
  ·exact .inl h1
  ·exact .inr (.inl ⟨h1,e,he,hb,h2⟩)
  ·refine .inr (.inr ⟨fun hm=>?_,?_,fun d hd hm=>?_⟩)
   ·rw [←List.contains_iff_mem,h1] at hm;cases hm
   ·rcases h3 with ⟨e,he,hb,h3⟩|⟨h3,h5⟩
    ·exact .inl ⟨e,he,hb,h3⟩
    ·refine .inr ⟨h3,fun d hd hm=>?_⟩
     rw [hd] at h5
     simp only [Bool.not_eq_true'] at h5
     rw [←List.contains_iff_mem,h5] at hm;cases hm
   ·rw [hd] at h4
    simp only [Bool.not_eq_true'] at h4
    rw [←List.contains_iff_mem,h4] at hm;cases hm
variable {po:Oper} {x:HV} {R:HS→Prop}
def AbF (po:Oper) (x:HV) (R:HS→Prop) (g:GF) (m:HS):Prop:=∃ m',YPan P n ops t po g m x m'∧R m'
theorem abF_now (ok:PanOK ops E p dead S po):∀ (fH:Nat) (M:Array Bool) (g:GF) (m:HS),(∀ e∈po.after,Region.binds .any e=true→M.getD e.on false=true)→M.getD p true=true→(∀ d∈dead,M.getD d true=true)→
  wpAnyH P n ops t E (AbF P n ops t po x R) fH M g m→AbF P n ops t po x R g m
 |0,M,g,m,_,_,_,h=>h.2
 |fH+1,M,g,m,h1,h2,h3,h=>by
  by_cases hr:Region.ready .any ops M=[]
  ·exact h.1 hr
  ·obtain ⟨i,hi⟩:=List.exists_mem_of_ne_nil _ hr
   obtain ⟨hun,oi,hoi,_⟩:=mem_ready.1 hi
   have hq:=h.2 i hi
   rcases ok.kind i oi hoi with e|⟨e,_⟩|⟨_,k,_⟩
   ·subst e;rw [h2] at hun;cases hun
   ·rw [h3 i e] at hun;cases hun
   ·rcases k with ⟨e,he,hb,rfl⟩|⟨kE,kd⟩
    ·have:=h1 e he hb
     rcases Nat.lt_or_ge e.on M.size with h'|h'
     ·simp [h'] at this hun;rw [this] at hun;cases hun
     ·simp [Array.getElem?_eq_none h'] at this
    ·unfold qOpH at hq
     rw [hoi] at hq
     simp only [kE] at hq
     obtain ⟨e,_,hK⟩:=hq
     have upd:∀ (j:Nat) (b:Bool),M.getD j b=true→(M.setIfInBounds i true).getD j b=true:=fun j b hj=>by
      by_cases hij:i=j
      ·subst hij
       by_cases hlt:i < M.size
       ·simp [hlt]
       ·simp [hlt] at hj ⊢;exact hj
      ·rw [getD_set_ne b hij];exact hj
     obtain ⟨m',hy,hR⟩:=abF_now ok fH _ _ _ (fun e he hb=>upd _ _ (h1 e he hb)) (upd _ _ h2) (fun d hd=>upd _ _ (h3 d hd)) hK
     exact ⟨m',hy.unput P n ops t kd,hR⟩
theorem wpAny_of_pan (ok:PanOK ops E p dead S po) {Q':Exit→Act→World→Prop} {s0:HS} {G0:Ghost} {w0:World} (h0:SRel G0 s0 w0) (g0:GF)
  (hQ:∀ g m' G' w' ra u,Post s0 G0 w0 (m' ++ t) G' w'→FAll G' n g ra→(∀ s,s∈S→g s=g0 s)→rel G' x u→R m'→Q' (.panic [{ v:=u,recovered:=false}]) ra w') :
  ∀ (fH k:Nat) (listed:Array Bool) (g:GF) (m:HS) (G:Ghost) (w:World) (ra:Act),listed.getD p true=false→(∀ d∈dead,listed.getD d true=false)→Post s0 G0 w0 (m ++ t) G w→FAll G n g ra→(∀ s,s∈S→g s=g0 s)→
   wpAnyH P n ops t E (AbF P n ops t po x R) fH (marked p dead listed) g m→wpAnyY P .any ops Q' (fH+k+1) listed ra w:=by
 intro fH
 induction fH with
 |zero=>
  intro k listed g m G w ra lp ld hp hf hg H
  exact go 0 k listed g m G w ra lp ld hp hf hg H (fun f' e=>by cases e)
 |succ fH ih=>
  intro k listed g m G w ra lp ld hp hf hg H
  exact go (fH+1) k listed g m G w ra lp ld hp hf hg H (fun f' e=>by cases e;exact ih)
where
 go (fH k:Nat) (listed:Array Bool) (g:GF) (m:HS) (G:Ghost) (w:World) (ra:Act) (lp:listed.getD p true=false) (ld:∀ d∈dead,listed.getD d true=false) (hp:Post s0 G0 w0 (m ++ t) G w) (hf:FAll G n g ra) (hg:∀ s,s∈S→g s=g0 s)
   (H:wpAnyH P n ops t E (AbF P n ops t po x R) fH (marked p dead listed) g m)
   (ih:∀ f',fH=f'+1→∀ (k:Nat) (listed:Array Bool) (g:GF) (m:HS) (G:Ghost) (w:World) (ra:Act),listed.getD p true=false→(∀ d∈dead,listed.getD d true=false)→Post s0 G0 w0 (m ++ t) G w→FAll G n g ra→(∀ s,s∈S→g s=g0 s)→
    wpAnyH P n ops t E (AbF P n ops t po x R) f' (marked p dead listed) g m→wpAnyY P .any ops Q' (f'+k+1) listed ra w) :
   wpAnyY P .any ops Q' (fH+k+1) listed ra w:=by
  have inB:∀ {j:Nat},listed.getD j true=false→j < listed.size:=fun {j} h=>by
   rcases Nat.lt_or_ge j listed.size with h'|h'
   ·exact h'
   ·simp [Array.getElem?_eq_none h'] at h
  have clash:∀ {j:Nat},listed.getD j true=false→listed.getD j false=true→False:=fun {j} h1 h2=>by
   have:=inB h1
   simp [this] at h1 h2
   rw [h1] at h2;cases h2
  have up:∀ j b,listed.getD j b=true→(marked p dead listed).getD j b=true:=fun j b hj=>by
   have:=marked_get p dead listed j
   simp only [Array.getD_eq_getD_getElem?] at hj ⊢
   rw [this]
   split
   ·rfl
   ·exact hj
  refine ⟨fun hr=>?_,fun i hi=>?_⟩
  ·exfalso
   have all:∀ j,j < ops.size→listed.getD j true=true:=fun j=>by
    induction j using Nat.strongRecOn with
    |_ j ihj=>
     intro hj
     cases hl:listed.getD j true with
     |true=>rfl
     |false=>
      exfalso
      have hoj:ops[j]? = some ops[j]:=Array.getElem?_eq_getElem hj
      have:j∈Region.ready .any ops listed:=mem_ready.2 ⟨hl,_,hoj,fun e he hb=>by
       have hlt:=ok.acyc j _ hoj e he hb
       have h1:=ihj e.on hlt (by omega)
       have:=inB hl
       have h3:e.on < listed.size:=by omega
       simp [h3] at h1 ⊢
       exact h1⟩
      rw [hr] at this;cases this
   have:=all p (Array.getElem?_eq_some_iff.1 ok.hp).1
   rw [lp] at this;cases this
  ·obtain ⟨hun,oi,hoi,hall⟩:=mem_ready.1 hi
   unfold wpOpY
   rw [hoi]
   simp only []
   by_cases hip:i=p
   ·subst hip
    have hpo:=ok.hp
    rw [hoi] at hpo
    cases hpo
    obtain ⟨m',hy,hR⟩:=abF_now P n ops t E i dead S ok fH _ g m (fun e he hb=>up _ _ (hall e he hb)) (by
     have:=marked_get i dead listed i
     simp only [Array.getD_eq_getD_getElem?]
     rw [this,if_pos ⟨inB lp,.inl rfl⟩];rfl) (fun d hd=>by
     have:=marked_get i dead listed d
     simp only [Array.getD_eq_getD_getElem?]
     rw [this,if_pos ⟨inB (ld d hd),.inr hd⟩];rfl) H
    obtain ⟨hw,hto⟩:=hy G w ra hp.srel (hf.on _)
    rw [if_pos hw]
    exact .inl (hto _ _ fun u w' G' hr hp'=>hQ g m' G' w' ra u (hp.trans h0 hp') (hf.mono hp'.ext.le) hg hr hR)
   ·have hnd:i∉dead:=fun hd=>by
     rcases ok.kind i oi hoi with e|⟨_,e,he,hb,h⟩|⟨h,_⟩
     ·exact hip e
     ·rcases h with h|h
      ·have:=hall e he hb;rw [h] at this;exact clash lp this
      ·exact clash (ld _ h) (hall e he hb)
     ·exact h hd
    have hdS:∀ d,oi.dst=some d→d∉S:=by
     rcases ok.kind i oi hoi with e|⟨h,_⟩|⟨_,_,h⟩
     ·exact absurd e hip
     ·exact absurd h hnd
     ·exact h
    have hi':i∈Region.ready .any ops (marked p dead listed):=mem_ready.2 ⟨by
     have:=marked_get p dead listed i
     simp only [Array.getD_eq_getD_getElem?] at hun ⊢
     rw [this,if_neg (by rintro ⟨_,h|h⟩;exact hip h;exact hnd h)]
     exact hun,oi,hoi,fun e he hb=>up _ _ (hall e he hb)⟩
    cases fH with
    |zero=>rw [H.1] at hi';cases hi'
    |succ f'=>
     have hq:=H.2 i hi'
     rw [←marked_set p dead listed hip hnd] at hq
     have lp':(listed.setIfInBounds i true).getD p true=false:=by rw [getD_set_ne true hip];exact lp
     have ld':∀ d∈dead,(listed.setIfInBounds i true).getD d true=false:=fun d hd=>by rw [getD_set_ne true (fun e:i=d=>hnd (by rw [e];exact hd))];exact ld d hd
     have hgs:∀ e:Tag × HV,∀ s,s∈S→gput g oi.dst e s=g0 s:=fun e s hs=>by
      cases hd:oi.dst with
      |none=>exact hg s hs
      |some d=>
       simp only [gput]
       rw [if_neg (fun h:s=d=>hdS d hd (h ▸ hs))]
       exact hg s hs
     have step:∀ {e:Tag × HV} {m':HS},YH P n ops t oi g m e m'→(tgB e.1=false→m'=m)→wpAnyH P n ops t E (AbF P n ops t po x R) f' (marked p dead (listed.setIfInBounds i true)) (gput g oi.dst e) m'→
       if Region.wanted oi (yielded ops ra.tmps)=true then Oper.wpY P oi ra w (wpAnyY P .any ops Q' (f'+1+k) (listed.setIfInBounds i true)) Q'∨(False∧LetsOut Q') else wpAnyY P .any ops Q' (f'+1+k) (listed.setIfInBounds i true) (ra.put oi.dst undef) w:=by
      intro e m' hy hoff hK
      rw [show f'+1+k=f'+k+1 by omega]
      obtain ⟨hd,hy⟩:=hy
      obtain ⟨hw,hto⟩:=hy G w ra hp.srel (hf.on _)
      rw [hw]
      cases hb:tgB e.1 with
      |true=>
       rw [if_pos rfl]
       refine .inl ((hto hb).wp fun u w' ⟨G',hr,hp'⟩=>?_)
       refine ih f' rfl k _ _ m' G' w' _ lp' ld' (hp.trans h0 hp') ((hf.mono hp'.ext.le).put hd ?_) (hgs e) hK
       cases he:e.1 with
       |sure=>exact hr
       |cond b=>rw [he] at hb;exact ⟨fun _=>hr,(fun hb'=>by rw [show b=true from hb] at hb';cases hb')⟩
      |false=>
       rw [if_neg (by simp)]
       have:=hoff hb
       subst this
       refine ih f' rfl k _ _ m' G w _ lp' ld' hp (hf.put hd ?_) (hgs e) hK
       cases he:e.1 with
       |sure=>rw [he] at hb;cases hb
       |cond b=>rw [he] at hb;exact ⟨(fun hb'=>by rw [show b=false from hb] at hb';cases hb'),fun _=>rfl⟩
     unfold qOpH at hq
     rw [hoi] at hq
     simp only [] at hq
     split at hq
     ·obtain ⟨e,m',h1,h2,h3⟩:=hq
      exact step h2 (fun h=>by rw [h1] at h;cases h) h3
     ·obtain ⟨e,h2,h3⟩:=hq
      exact step (h2 m) (fun _=>rfl) h3
end
end
end Go.Proofs.Hk

set_option linter.unusedVariables false
namespace Go.Proofs.Hk
noncomputable section
open Go
section
variable (P:Program) (n:Nat) (ops:Array Oper) (t:HS) (E:List Nat)
def lexAl:List Nat→Array Bool→Bool
 |[],listed=>(Region.ready .any ops listed).isEmpty
 |k::l,listed=>(Region.ready .any ops listed).contains k && freeE ops E listed k && lexAl l (listed.setIfInBounds k true)
def textAl (Q:GF→HS→Prop):List Nat→GF→HS→Prop
 |[],g,m=>Q g m
 |k::l,g,m=>qOpH P n ops t E k (textAl Q l) g m
theorem wpAnyH_lexAl {Q:GF→HS→Prop} : ∀ (l:List Nat) (listed:Array Bool) (g:GF) (m:HS),lexAl ops E l listed=true→textAl P n ops t E Q l g m→wpAnyH P n ops t E Q l.length listed g m
 |[],_,_,_,hB,h=>⟨by simpa [lexAl] using hB,h⟩
 |k::l,listed,g,m,hB,h=>by
  simp only [lexAl,Bool.and_eq_true] at hB
  obtain ⟨⟨hr,hf⟩,hB'⟩:=hB
  have hr':k∈Region.ready .any ops listed:=by simpa using hr
  obtain ⟨_,o,h0,_⟩:=mem_ready.1 hr'
  obtain ⟨e,m',hy,hK⟩:=yf_of_qOp P n ops t E h0 h
  exact wpAnyH_first P n ops t E h0 l.length listed g m m' (freeE_spec ops E h0 hf) hr' hy (wpAnyH_lexAl l _ _ _ hB' hK)
end
/-- The operations that change nothing, one by one. -/
structure DOpsL (c:Cx) (n:Nat) (all:Array Oper) (t:HS) (F:Fr→Prop) (l:List Nat) (a:Fr):Prop where
 out:∀ m,textAl c.P n all t [] (fun g m'=>m'=m∧∃ a',(fun t=>a'.get t)=g∧F a') l (fun t=>a.get t) m
theorem DOpsL.nil {c:Cx} {n:Nat} {all:Array Oper} {t:HS} {F:Fr→Prop} {a:Fr} (h:F a):DOpsL c n all t F [] a:=⟨fun m=>⟨rfl,a,rfl,h⟩⟩
theorem DOpsL.cons {c:Cx} {n:Nat} {all:Array Oper} {t:HS} {F:Fr→Prop} {k:Nat} {l:List Nat} {a:Fr} {o:Oper} {tg:Tag} (hk:all[k]? = some o) (hact:active all a o=some tg)
  (h:DStp c n t tg o.dst (fun a'=>DOpsL c n all t F l a') (hop c o.op a t) a):DOpsL c n all t F (k::l) a:=by
 constructor
 intro m
 have hlt:k < all.size:=(Array.getElem?_eq_some_iff.1 hk).1
 have hko:all[k]=o:=(Array.getElem?_eq_some_iff.1 hk).2
 have hw:drawWp c n #[] t [] (fun _ _ _=>True) [] 0 a m:=by simp [drawWp,forceL_eq]
 simp only [textAl,qOpH,hk]
 have hwant:∀ {G:Ghost} {ra:Act},FOn (o.looksAt all) G n (fun t=>a.get t) ra→Region.wanted o (yielded all ra.tmps)=tgB tg:=fun hf=>by
  rw [←active_only] at hact
  have:=active_ok hf.rel hact
  cases tg<;>exact this
 have quiet:∀ {x:HV},(∀ d,o.dst=some d→d < n)→(∀ G w ra,SRel G t w→FRel G n (Fr.only (o.looksAt all) a) ra→tgB tg=true→OpTo c.P o ra w fun u w'=>∃ G',rel G' x u∧Post t G w t G' w')→YQ c.P n all t o (fun t=>a.get t) (tg,x):=fun hd hy m=>
  ⟨hd,fun G w ra hs hf=>⟨hwant hf,fun hb=>(hy G w ra hs.right hf.rel hb).mono fun u w' ⟨G',hr,hp⟩=>⟨G',hr,hp.frameL hs⟩⟩⟩
 have step:∀ {x:HV},PutD n o.dst tg (fun a'=>DOpsL c n all t F l a') a x→(∀ d,o.dst=some d→d < n)∧textAl c.P n all t [] (fun g m'=>m'=m∧∃ a',(fun t=>a'.get t)=g∧F a') l (gput (fun t=>a.get t) o.dst (tg,x)) m:=fun {x} ⟨a',ha,hK⟩=>by
  obtain ⟨h1,h2⟩:=hput_get ha
  exact ⟨h2,h1 ▸ hK.out m⟩
 have sem:∀ G w ra,SRel G t w→FRel G n (Fr.only (o.looksAt all) a) ra→ResOK c.P t G w ((execOp ra.eval o).run c.P w) (hop c o.op a t):=fun G w ra hs hf=>by
  have:=hop_ok c hs hf o
  rwa [hop_only c looksAt_op] at this
 have h:=h.out
 show ∃ e,YQ c.P n all t o (fun t=>a.get t) e∧_
 generalize hop c o.op a t=q at h sem
 induction q with
 |bad=>
  cases tg with
  |sure=>exact h.elim
  |cond b=>
   obtain ⟨hb0,x,hx⟩:=h
   obtain ⟨hd,hK⟩:=step hx
   exact ⟨(.cond b,x),quiet hd fun G w ra hs hf hb=>absurd hb (by simp [tgB,hb0]),hK⟩
 |pan φ x=>exact h.elim
 |eff W=>exact h.elim
 |pure x=>
  obtain ⟨hd,hK⟩:=step h
  exact ⟨(tg,x),quiet hd fun G w ra hs hf _=>opTo_gives (sem G w ra hs hf),hK⟩
 |val φ x=>
  have h:(tgB tg=true→φ)∧PutD n o.dst tg (fun a'=>DOpsL c n all t F l a') a x:=by
   cases tg with
   |sure=>exact ⟨fun _=>h.1,h.2⟩
   |cond b=>exact ⟨h.1,h.2⟩
  obtain ⟨hφ,h⟩:=h
  obtain ⟨hd,hK⟩:=step h
  exact ⟨(tg,x),quiet hd fun G w ra hs hf hb=>opTo_gives (sem G w ra hs hf (hφ hb)),hK⟩
 |call φ f xs=>
  have h:∃ x,(tgB tg=true→φ∧QCall c f xs t x)∧PutD n o.dst tg (fun a'=>DOpsL c n all t F l a') a x:=by
   cases tg with
   |sure=>obtain ⟨x,h1,h2⟩:=h;exact ⟨x,fun _=>h1 trivial,h2⟩
   |cond b=>obtain ⟨x,h1,h2⟩:=h;exact ⟨x,h1,h2⟩
  obtain ⟨x,hφ,h⟩:=h
  obtain ⟨hd,hK⟩:=step h
  refine ⟨(tg,x),quiet hd fun G w ra hs hf hb=>?_,hK⟩
  have hφ:=hφ hb
  obtain ⟨vs,hr,hx⟩:=sem G w ra hs hf hφ.1
  exact opTo_call hs hr hx hφ.2.out
 |look r k ihq=>
  obtain ⟨x,hx,h⟩:=h
  exact ihq x h fun G w ra hs hf=>sem G w ra hs hf x hx
/-- The call that panics. -/
structure PCall (c:Cx) (o:Oper) (m t:HS) (x:HV) (s':HS) (a:Fr):Prop where
 out:∃ φ f xs m',hop c o.op a (m ++ t) = .call φ f xs∧φ∧HCalls c.P f xs (m ++ t) (fun e st=>e = .pan x∧st=m' ++ t)∧s'=m' ++ t
theorem PCall.mk' {c:Cx} {o:Oper} {m t:HS} {x:HV} {s':HS} {a:Fr} {φ:Prop} {f:FuncId} {xs:List HV} (m':HS) (h:hop c o.op a (m ++ t) = .call φ f xs) (hφ:φ) (hc:HCalls c.P f xs (m ++ t) fun e st=>e = .pan x∧st=m' ++ t) (hs:s'=m' ++ t):PCall c o m t x s' a:=⟨φ,f,xs,m',h,hφ,hc,hs⟩
/-- A region whose order is drawn, and one of whose operations, a call, panics. -/
theorem drawPan (c:Cx) {n id:Nat} {ops:Array Oper} {Q:HExit→Fr→HS→Prop} {a:Fr} {s:HS} (m t:HS) (p:Nat) (dead alive:List Nat) (S:List Tmp) (x:HV) (s':HS) {po:Oper} (hp:(m ++ t).Perm s) (hpo:ops[p]? = some po)
  (hB:panB ops [] p dead S po=true) (hL:lexAl ops [] alive (marked p dead (Array.replicate ops.size false))=true) (hn:Nat.blt alive.length ops.size=true) (hd:dead.all (fun d=>Nat.blt d ops.size)=true)
  (h:DOpsL c n ops t (fun a'=>active ops a' po=some .sure∧PCall c po m t x s' a') alive a) (hQ:Q (.pan x) (Fr.only S a) s'):DrawReg c.P n id ops Q a s:=
 ⟨⟨fun G w ra hs hf=>by
  have hs':SRel G (m ++ t) w:=hs.permd hp.symm
  refine wpB_region_any c.orders ?_
  have hp0:Post (m ++ t) G w (m ++ t) G { w with drawn:=w.drawn+1}:=Post.drawn hs' rfl rfl rfl rfl
  have ok:=panB_ok ops [] p dead S hpo hB
  have hlt:p < ops.size:=(Array.getElem?_eq_some_iff.1 hpo).1
  have H:=wpAnyH_lexAl c.P n ops t [] alive _ (fun t=>a.get t) m hL (h.out m)
  have H2:wpAnyH c.P n ops t [] (AbF c.P n ops t po x (fun m'=>s'=m' ++ t)) alive.length (marked p dead (Array.replicate ops.size false)) (fun t=>a.get t) m:=by
   have mono:∀ (fuel:Nat) (M:Array Bool) (g:GF) (m0:HS) (A B:GF→HS→Prop),(∀ g m,A g m→B g m)→wpAnyH c.P n ops t [] A fuel M g m0→wpAnyH c.P n ops t [] B fuel M g m0:=by
    intro fuel
    induction fuel with
    |zero=>intro M g m0 A B hab hh;exact ⟨hh.1,hab _ _ hh.2⟩
    |succ fuel ih=>intro M g m0 A B hab hh;exact ⟨fun h1=>hab _ _ (hh.1 h1),fun i hi=>qOpH_mono c.P n ops t [] (fun g m=>ih _ g m A B hab) (hh.2 i hi)⟩
   refine mono _ _ _ _ _ _ (fun g m1 ⟨e,a',hg,hact,hc⟩=>?_) H
   subst e hg
   obtain ⟨φ,f,xs,m',h1,hφ,hcall,rfl⟩:=hc.out
   refine ⟨m',fun G w ra hs hf=>⟨?_,fun next Q' hq=>?_⟩,rfl⟩
   ·have:=active_ok hf.rel (by rw [active_only];exact hact)
    exact this
   ·have:=hop_ok c hs hf.rel po
    rw [hop_only c looksAt_op,h1] at this
    obtain ⟨vs,hr,hx⟩:=this hφ
    unfold Oper.wpY
    rw [hr,Oper.uponY_enter]
    refine (hcall.out G w vs hs hx).mono fun e w'' ⟨he,s1,G',⟨k1,k2⟩,k3,k4⟩=>?_
    subst k1 k2
    cases e with
    |panicked ch=>
     obtain ⟨u,rfl,hr⟩:=k3
     exact hq u w'' G' hr k4
    |_=>exact k3.elim
  have e:ops.size=alive.length+(ops.size - 1 - alive.length)+1:=by have:=Nat.blt_eq ▸ hn;omega
  rw [show wpAnyY c.P .any ops _ ops.size _ ra _=wpAnyY c.P .any ops _ (alive.length+(ops.size - 1 - alive.length)+1) _ ra _ from by rw [←e]]
  refine wpAny_of_pan c.P n ops t [] p dead S ok hs' (fun t=>a.get t) (fun g m' G' w' ra' u hp' hf' hg hr hR=>?_) alive.length (ops.size - 1 - alive.length) _ _ m G _ ra (by simp [hlt]) (fun d hdm=>?_) hp0 ⟨hf.size,hf.defers,hf.slots⟩ (fun _ _=>rfl) H2
  ·subst hR
   refine ⟨.pan x,Fr.only S a,m' ++ t,G',hQ,⟨u,rfl,hr⟩,⟨hf'.size,hf'.defers,fun t' tg y hy=>?_⟩,hp'.permL hp⟩
   rw [only_get] at hy
   split at hy
   ·rename_i hm
    exact hf'.slots t' tg y (by rw [hg t' (memN_iff.1 hm)];exact hy)
   ·cases hy
  ·have:=List.all_eq_true.1 hd d hdm
   have:=Nat.blt_eq ▸ this
   simp [this]⟩⟩
end
end Go.Proofs.Hk

set_option linter.unusedVariables false
namespace Go.Proofs.Hk
noncomputable section
open Go
/-! A region whose order is drawn, two of whose parts are turned, each by operations of its own. -/
section
variable (P:Program) (n:Nat) (ops:Array Oper) (t:HS) (E1 E2:List Nat)
def qOp2 (i:Nat) (K:GF→HS→HS→Prop) (g:GF) (a b:HS):Prop:=
 match ops[i]? with
 |none=>K g a b
 |some o=>match E1.contains i with
  |true=>∃ e a',tgB e.1=true∧(∀ b,YH P n ops t o g (a ++ b) e (a' ++ b))∧K (gput g o.dst e) a' b
  |false=>match E2.contains i with
   |true=>∃ e b',tgB e.1=true∧(∀ a,YH P n ops t o g (a ++ b) e (a ++ b'))∧K (gput g o.dst e) a b'
   |false=>∃ e,YQ P n ops t o g e∧K (gput g o.dst e) a b
theorem qOp2_mono {i:Nat} {K K':GF→HS→HS→Prop} (h:∀ g a b,K g a b→K' g a b) {g:GF} {a b:HS} (hh:qOp2 P n ops t E1 E2 i K g a b):qOp2 P n ops t E1 E2 i K' g a b:=by
 unfold qOp2 at *
 split
 ·exact h _ _ _ (by simpa [*] using hh)
 ·rename_i o ho
  simp only [ho] at hh
  split
  ·rename_i hE;simp only [hE] at hh;obtain ⟨e,m',h0,h1,h2⟩:=hh;exact ⟨e,m',h0,h1,h _ _ _ h2⟩
  ·rename_i hE
   simp only [hE] at hh
   split
   ·rename_i hE2;simp only [hE2] at hh;obtain ⟨e,m',h0,h1,h2⟩:=hh;exact ⟨e,m',h0,h1,h _ _ _ h2⟩
   ·rename_i hE2;simp only [hE2] at hh;obtain ⟨e,h1,h2⟩:=hh;exact ⟨e,h1,h _ _ _ h2⟩
def wpAny2 (Q:GF→HS→HS→Prop):Nat→Array Bool→GF→HS→HS→Prop
 |0,listed,g,a,b=>Region.ready .any ops listed=[]∧Q g a b
 |fuel+1,listed,g,a,b=>
  (Region.ready .any ops listed=[]→Q g a b)∧
  ∀ i∈Region.ready .any ops listed,qOp2 P n ops t E1 E2 i (wpAny2 Q fuel (listed.setIfInBounds i true)) g a b
theorem wpAny_of_2 {Q:GF→HS→HS→Prop} {Q':Exit→Act→World→Prop} {s0:HS} {G0:Ghost} {w0:World} (h0:SRel G0 s0 w0)
  (hQ:∀ g a b G w ra,Post s0 G0 w0 (a ++ b ++ t) G w→FAll G n g ra→Q g a b→Q' .normal ra w) :
  ∀ (fuel:Nat) (listed:Array Bool) (g:GF) (a b:HS) (G:Ghost) (w:World) (ra:Act),Post s0 G0 w0 (a ++ b ++ t) G w→FAll G n g ra→wpAny2 P n ops t E1 E2 Q fuel listed g a b→wpAnyY P .any ops Q' fuel listed ra w
 |0,_,g,a,b,G,w,ra,hp,hf,h=>⟨h.1,hQ g a b G w ra hp hf h.2⟩
 |fuel+1,listed,g,a,b,G,w,ra,hp,hf,h=>⟨fun h1=>hQ g a b G w ra hp hf (h.1 h1),fun i hi=>by
   have hi:=h.2 i hi
   unfold qOp2 at hi
   unfold wpOpY
   have step:∀ {o:Oper} {e:Tag × HV} {a' b':HS},YH P n ops t o g (a ++ b) e (a' ++ b')→(tgB e.1=false→a'=a∧b'=b)→wpAny2 P n ops t E1 E2 Q fuel (listed.setIfInBounds i true) (gput g o.dst e) a' b'→
     if Region.wanted o (yielded ops ra.tmps)=true then Oper.wpY P o ra w (wpAnyY P .any ops Q' fuel (listed.setIfInBounds i true)) Q'∨(False∧LetsOut Q') else wpAnyY P .any ops Q' fuel (listed.setIfInBounds i true) (ra.put o.dst undef) w:=by
    intro o e a' b' hy hoff hK
    obtain ⟨hd,hy⟩:=hy
    obtain ⟨hw,hto⟩:=hy G w ra hp.srel (hf.on _)
    rw [hw]
    cases hb:tgB e.1 with
    |true=>
     rw [if_pos rfl]
     refine .inl ((hto hb).wp fun u w' ⟨G',hr,hp'⟩=>?_)
     refine wpAny_of_2 h0 hQ fuel _ _ a' b' G' w' _ (hp.trans h0 hp') ((hf.mono hp'.ext.le).put hd ?_) hK
     cases he:e.1 with
     |sure=>exact hr
     |cond b=>rw [he] at hb;exact ⟨fun _=>hr,(fun hb'=>by rw [show b=true from hb] at hb';cases hb')⟩
    |false=>
     rw [if_neg (by simp)]
     obtain ⟨rfl,rfl⟩:=hoff hb
     refine wpAny_of_2 h0 hQ fuel _ _ a' b' G w _ hp (hf.put hd ?_) hK
     cases he:e.1 with
     |sure=>rw [he] at hb;cases hb
     |cond b=>rw [he] at hb;exact ⟨(fun hb'=>by rw [show b=false from hb] at hb';cases hb'),fun _=>rfl⟩
   split
   ·rename_i ho;simp only [ho] at hi;exact wpAny_of_2 h0 hQ fuel _ g a b G w ra hp hf hi
   ·rename_i o ho
    simp only [ho] at hi
    split at hi
    ·obtain ⟨e,a',h1,h2,h3⟩:=hi
     exact step (h2 b) (fun h=>by rw [h1] at h;cases h) h3
    ·split at hi
     ·obtain ⟨e,b',h1,h2,h3⟩:=hi
      exact step (h2 a) (fun h=>by rw [h1] at h;cases h) h3
     ·obtain ⟨e,h2,h3⟩:=hi
      exact step (h2 (a ++ b)) (fun _=>⟨rfl,rfl⟩) h3⟩
def YF2 (i:Nat) (o:Oper) (g:GF) (a b:HS) (e:Tag × HV) (a' b':HS):Prop:=
 match E1.contains i with
 |true=>tgB e.1=true∧b'=b∧∀ b,YH P n ops t o g (a ++ b) e (a' ++ b)
 |false=>match E2.contains i with
  |true=>tgB e.1=true∧a'=a∧∀ a,YH P n ops t o g (a ++ b) e (a ++ b')
  |false=>a'=a∧b'=b∧YQ P n ops t o g e
theorem YF2.qOp {i:Nat} {o:Oper} {g:GF} {a b a' b':HS} {e:Tag × HV} (hi:ops[i]? = some o) (hy:YF2 P n ops t E1 E2 i o g a b e a' b') {K:GF→HS→HS→Prop} (h:K (gput g o.dst e) a' b'):qOp2 P n ops t E1 E2 i K g a b:=by
 unfold qOp2
 simp only [hi]
 unfold YF2 at hy
 split at hy
 ·obtain ⟨h1,rfl,h2⟩:=hy;exact ⟨e,a',h1,h2,h⟩
 ·split at hy
  ·obtain ⟨h1,rfl,h2⟩:=hy;exact ⟨e,b',h1,h2,h⟩
  ·obtain ⟨rfl,rfl,hy⟩:=hy;exact ⟨e,hy,h⟩
theorem yf2_of_qOp {i:Nat} {o:Oper} {g:GF} {a b:HS} {K:GF→HS→HS→Prop} (hi:ops[i]? = some o) (h:qOp2 P n ops t E1 E2 i K g a b):∃ e a' b',YF2 P n ops t E1 E2 i o g a b e a' b'∧K (gput g o.dst e) a' b':=by
 unfold qOp2 at h
 simp only [hi] at h
 split at h
 ·rename_i hE
  obtain ⟨e,m',h1,h2,h3⟩:=h
  exact ⟨e,m',b,by unfold YF2;rw [hE];exact ⟨h1,rfl,h2⟩,h3⟩
 ·rename_i hE
  split at h
  ·rename_i hE2
   obtain ⟨e,m',h1,h2,h3⟩:=h
   exact ⟨e,a,m',by unfold YF2;rw [hE];simp only [hE2];exact ⟨h1,by first|rfl|exact True.intro,h2⟩,h3⟩
  ·rename_i hE2
   obtain ⟨e,h2,h3⟩:=h
   exact ⟨e,a,b,by unfold YF2;rw [hE];simp only [hE2];exact ⟨by first|rfl|exact True.intro,by first|rfl|exact True.intro,h2⟩,h3⟩
def apart2 (i j:Nat) (oi oj:Oper):Bool:=oi.apart ops oj && !(E1.contains i && E1.contains j) && !(E2.contains i && E2.contains j && !E1.contains i && !E1.contains j)
theorem qOp2_put {i j:Nat} {oi oj:Oper} {e:Tag × HV} (hj:ops[j]? = some oj) (hap:apart2 ops E1 E2 i j oi oj=true) {K:GF→HS→HS→Prop} {g:GF} {a b a' b':HS}
  (hy:YF2 P n ops t E1 E2 i oi g a b e a' b') (h:qOp2 P n ops t E1 E2 j K (gput g oi.dst e) a' b') :
  qOp2 P n ops t E1 E2 j (fun g1 a1 b1=>∃ a2 b2,YF2 P n ops t E1 E2 i oi g1 a1 b1 e a2 b2∧K (gput g1 oi.dst e) a2 b2) g a b:=by
 simp only [apart2,Bool.and_eq_true,Bool.not_eq_true'] at hap
 obtain ⟨⟨hap0,hap1⟩,hap2⟩:=hap
 obtain ⟨h1,h2,h3⟩:=Oper.apart_spec hap0
 unfold qOp2 at *
 simp only [hj] at *
 cases hEi:E1.contains i with
 |true=>
  have hEj:E1.contains j=false:=by cases hq:E1.contains j with
   |false=>rfl
   |true=>rw [hEi,hq] at hap1;cases hap1
  simp only [hEj] at h ⊢
  unfold YF2 at hy ⊢
  simp only [hEi] at hy ⊢
  obtain ⟨hy1,rfl,hy2⟩:=hy
  split at h
  ·obtain ⟨ej,b2,h0,hq,hK⟩:=h
   refine ⟨ej,b2,h0,fun a0=>(hq a0).unput P n ops t h1,a',b2,⟨hy1,rfl,fun b0=>(hy2 b0).put P n ops t h3 _⟩,?_⟩
   rw [←gput_comm g e ej h2];exact hK
  ·obtain ⟨ej,hq,hK⟩:=h
   refine ⟨ej,fun m0=>(hq m0).unput P n ops t h1,a',b',⟨hy1,rfl,fun b0=>(hy2 b0).put P n ops t h3 _⟩,?_⟩
   rw [←gput_comm g e ej h2];exact hK
 |false=>
  cases hE2i:E2.contains i with
  |true=>
   unfold YF2 at hy ⊢
   simp only [hEi,hE2i] at hy ⊢
   obtain ⟨hy1,rfl,hy2⟩:=hy
   split at h
   ·obtain ⟨ej,a2,h0,hq,hK⟩:=h
    refine ⟨ej,a2,h0,fun b0=>(hq b0).unput P n ops t h1,a2,b',⟨hy1,rfl,fun a0=>(hy2 a0).put P n ops t h3 _⟩,?_⟩
    rw [←gput_comm g e ej h2];exact hK
   ·rename_i hEj
    split at h
    ·rename_i hE2j
     rw [hE2i,hE2j,hEi,hEj] at hap2;cases hap2
    ·obtain ⟨ej,hq,hK⟩:=h
     refine ⟨ej,fun m0=>(hq m0).unput P n ops t h1,a',b',⟨hy1,rfl,fun a0=>(hy2 a0).put P n ops t h3 _⟩,?_⟩
     rw [←gput_comm g e ej h2];exact hK
  |false=>
   unfold YF2 at hy ⊢
   simp only [hEi,hE2i] at hy ⊢
   obtain ⟨rfl,rfl,hy⟩:=hy
   split at h
   ·obtain ⟨ej,a2,h0,hq,hK⟩:=h
    refine ⟨ej,a2,h0,fun b0=>(hq b0).unput P n ops t h1,a2,b',⟨rfl,rfl,fun m0=>(hy m0).put P n ops t h3 _⟩,?_⟩
    rw [←gput_comm g e ej h2];exact hK
   ·split at h
    ·obtain ⟨ej,b2,h0,hq,hK⟩:=h
     refine ⟨ej,b2,h0,fun a0=>(hq a0).unput P n ops t h1,a',b2,⟨rfl,rfl,fun m0=>(hy m0).put P n ops t h3 _⟩,?_⟩
     rw [←gput_comm g e ej h2];exact hK
    ·obtain ⟨ej,hq,hK⟩:=h
     refine ⟨ej,fun m0=>(hq m0).unput P n ops t h1,a',b',⟨rfl,rfl,fun m0=>(hy m0).put P n ops t h3 _⟩,?_⟩
     rw [←gput_comm g e ej h2];exact hK
theorem wpAny2_first {Q:GF→HS→HS→Prop} {i:Nat} {oi:Oper} {e:Tag × HV} (hi:ops[i]? = some oi) :
  ∀ (fuel:Nat) (listed:Array Bool) (g:GF) (a b a' b':HS),
   (∀ j oj,ops[j]? = some oj→j≠i→listed.getD j true=false→(∀ e∈oj.after,Region.binds .any e=true→e.on≠i)→apart2 ops E1 E2 i j oi oj=true)→
   i∈Region.ready .any ops listed→YF2 P n ops t E1 E2 i oi g a b e a' b'→
   wpAny2 P n ops t E1 E2 Q fuel (listed.setIfInBounds i true) (gput g oi.dst e) a' b'→wpAny2 P n ops t E1 E2 Q (fuel+1) listed g a b:=by
 intro fuel
 induction fuel with
 |zero=>
  intro listed g a b a' b' _ hr hy H
  refine ⟨fun h=>(by rw [h] at hr;cases hr),fun j hj=>?_⟩
  by_cases hji:j=i
  ·subst hji;exact hy.qOp P n ops t E1 E2 hi H
  ·have:=ready_mono hj hji
   rw [H.1] at this
   cases this
 |succ fuel ih=>
  intro listed g a b a' b' hfree hr hy H
  refine ⟨fun h=>(by rw [h] at hr;cases hr),fun j hj=>?_⟩
  by_cases hji:j=i
  ·subst hji;exact hy.qOp P n ops t E1 E2 hi H
  ·have h1:=H.2 j (ready_mono hj hji)
   obtain ⟨hjun,oj,hoj,hall⟩:=mem_ready.1 hj
   have hnot:∀ e∈oj.after,Region.binds .any e=true→e.on≠i:=fun e he hb heq=>by
    have h1:=hall e he hb
    have h0:=(mem_ready.1 hr).1
    rw [heq] at h1
    rcases Nat.lt_or_ge i listed.size with h'|h'
    ·simp [h'] at h0 h1;rw [h0] at h1;cases h1
    ·simp [Array.getElem?_eq_none h'] at h1
   have h2:=qOp2_put P n ops t E1 E2 hoj (hfree j oj hoj hji hjun hnot) hy h1
   have hfree':∀ k ok,ops[k]? = some ok→k≠i→(listed.setIfInBounds j true).getD k true=false→
     (∀ e∈ok.after,Region.binds .any e=true→e.on≠i)→apart2 ops E1 E2 i k oi ok=true:=fun k ok hk hki hun hno=>by
    refine hfree k ok hk hki ?_ hno
    by_cases hjk:j=k
    ·subst hjk;exact hjun
    ·rw [getD_set_ne true hjk] at hun;exact hun
   refine qOp2_mono P n ops t E1 E2 (fun g1 a1 b1 ⟨a2,b2,h3,h4⟩=>ih (listed.setIfInBounds j true) g1 a1 b1 a2 b2 hfree' (ready_mono hr (Ne.symm hji)) h3 ?_) h2
   rw [Array.setIfInBounds_comm _ _ hji]
   exact h4
def free2 (listed:Array Bool) (i:Nat):Bool:=
 match ops[i]? with
 |none=>false
 |some oi=>(List.range ops.size).all fun j=>j == i||listed.getD j true||match ops[j]? with
   |some oj=>oj.after.any (fun e=>Region.binds .any e && e.on == i)||apart2 ops E1 E2 i j oi oj
   |none=>true
theorem free2_spec {i:Nat} {oi:Oper} {listed:Array Bool} (hi:ops[i]? = some oi) (h:free2 ops E1 E2 listed i=true) (j:Nat) (oj:Oper)
  (hj:ops[j]? = some oj) (hne:j≠i) (hun:listed.getD j true=false) (hno:∀ e∈oj.after,Region.binds .any e=true→e.on≠i) :
  apart2 ops E1 E2 i j oi oj=true:=by
 simp only [free2,hi,List.all_eq_true,List.mem_range] at h
 have h1:=h j (Array.getElem?_eq_some_iff.1 hj).1
 simp only [hj,Bool.or_eq_true,beq_iff_eq,hne,false_or,hun,Bool.false_eq_true] at h1
 rcases h1 with h1|h1
 ·obtain ⟨e,he,hb⟩:=Array.any_eq_true'.1 h1
  simp only [Bool.and_eq_true,beq_iff_eq] at hb
  exact absurd hb.2 (hno e he hb.1)
 ·exact h1
def lex2:List Nat→Array Bool→Bool
 |[],listed=>(Region.ready .any ops listed).isEmpty
 |k::l,listed=>(Region.ready .any ops listed).contains k && free2 ops E1 E2 listed k && lex2 l (listed.setIfInBounds k true)
def text2 (Q:GF→HS→HS→Prop):List Nat→GF→HS→HS→Prop
 |[],g,a,b=>Q g a b
 |k::l,g,a,b=>qOp2 P n ops t E1 E2 k (text2 Q l) g a b
theorem wpAny2_lex {Q:GF→HS→HS→Prop} : ∀ (l:List Nat) (listed:Array Bool) (g:GF) (a b:HS),lex2 ops E1 E2 l listed=true→text2 P n ops t E1 E2 Q l g a b→wpAny2 P n ops t E1 E2 Q l.length listed g a b
 |[],_,_,_,_,hB,h=>⟨by simpa [lex2] using hB,h⟩
 |k::l,listed,g,a,b,hB,h=>by
  simp only [lex2,Bool.and_eq_true] at hB
  obtain ⟨⟨hr,hf⟩,hB'⟩:=hB
  have hr':k∈Region.ready .any ops listed:=by simpa using hr
  obtain ⟨_,o,h0,_⟩:=mem_ready.1 hr'
  obtain ⟨e,a',b',hy,hK⟩:=yf2_of_qOp P n ops t E1 E2 h0 h
  exact wpAny2_first P n ops t E1 E2 h0 l.length listed g a b a' b' (free2_spec ops E1 E2 h0 hf) hr' hy (wpAny2_lex l _ _ _ _ hB' hK)
end
end
end Go.Proofs.Hk

set_option linter.unusedVariables false
namespace Go.Proofs.Hk
noncomputable section
open Go
/-- Such a region by small rules: l are the operations still to come; a and b are the parts that are turned. -/
structure D2 (c:Cx) (n:Nat) (all:Array Oper) (t:HS) (E1 E2:List Nat) (Q:HExit→Fr→HS→Prop) (l:List Nat) (f:Fr) (a b:HS):Prop where
 out:text2 c.P n all t E1 E2 (fun g a b=>∃ f',(fun t=>f'.get t)=g∧Q .normal f' (a ++ b ++ t)) l (fun t=>f.get t) a b
section
variable {c:Cx} {n:Nat} {all:Array Oper} {t:HS} {E1 E2:List Nat} {Q:HExit→Fr→HS→Prop} {f:Fr} {a b:HS}
theorem D2.nil {s:HS} (e:a ++ b ++ t=s) (h:Q .normal f s):D2 c n all t E1 E2 Q [] f a b:=⟨f,rfl,by rw [e];exact h⟩
theorem d2_want {o:Oper} {tg:Tag} (hact:active all f o=some tg) {G:Ghost} {ra:Act} (hf:FOn (o.looksAt all) G n (fun t=>f.get t) ra):Region.wanted o (yielded all ra.tmps)=tgB tg:=by
 rw [←active_only] at hact
 have:=active_ok hf.rel hact
 cases tg<;>exact this
theorem d2_sem {o:Oper} {s:HS} {G:Ghost} {w:World} {ra:Act} (hs:SRel G s w) (hf:FRel G n (Fr.only (o.looksAt all) f) ra):ResOK c.P s G w ((execOp ra.eval o).run c.P w) (hop c o.op f s):=by
 have:=hop_ok c hs hf o
 rwa [hop_only c looksAt_op] at this
theorem D2.quiet {k:Nat} {l:List Nat} {o:Oper} {tg:Tag} (hk:all[k]? = some o) (h1:E1.contains k=false) (h2:E2.contains k=false) (hact:active all f o=some tg)
  (h:DStp c n t tg o.dst (fun f'=>D2 c n all t E1 E2 Q l f' a b) (hop c o.op f t) f):D2 c n all t E1 E2 Q (k::l) f a b:=by
 constructor
 simp only [text2,qOp2,hk,h1,h2]
 have quiet:∀ {x:HV},(∀ d,o.dst=some d→d < n)→(∀ G w ra,SRel G t w→FRel G n (Fr.only (o.looksAt all) f) ra→tgB tg=true→OpTo c.P o ra w fun u w'=>∃ G',rel G' x u∧Post t G w t G' w')→YQ c.P n all t o (fun t=>f.get t) (tg,x):=fun hd hy m=>
  ⟨hd,fun G w ra hs hf=>⟨d2_want hact hf,fun hb=>(hy G w ra hs.right hf.rel hb).mono fun u w' ⟨G',hr,hp⟩=>⟨G',hr,hp.frameL hs⟩⟩⟩
 have step:∀ {x:HV},PutD n o.dst tg (fun f'=>D2 c n all t E1 E2 Q l f' a b) f x→(∀ d,o.dst=some d→d < n)∧text2 c.P n all t E1 E2 (fun g a b=>∃ f',(fun t=>f'.get t)=g∧Q .normal f' (a ++ b ++ t)) l (gput (fun t=>f.get t) o.dst (tg,x)) a b:=fun {x} ⟨f',hf',hK⟩=>by
  obtain ⟨h1,h2⟩:=hput_get hf'
  exact ⟨h2,h1 ▸ hK.out⟩
 have sem:∀ G w ra,SRel G t w→FRel G n (Fr.only (o.looksAt all) f) ra→ResOK c.P t G w ((execOp ra.eval o).run c.P w) (hop c o.op f t):=fun G w ra hs hf=>d2_sem hs hf
 have h:=h.out
 generalize hop c o.op f t=q at h sem
 induction q with
 |bad=>
  cases tg with
  |sure=>exact h.elim
  |cond b=>
   obtain ⟨hb0,x,hx⟩:=h
   obtain ⟨hd,hK⟩:=step hx
   exact ⟨(.cond b,x),quiet hd fun G w ra hs hf hb=>absurd hb (by simp [tgB,hb0]),hK⟩
 |pan φ x=>exact h.elim
 |eff W=>exact h.elim
 |pure x=>
  obtain ⟨hd,hK⟩:=step h
  exact ⟨(tg,x),quiet hd fun G w ra hs hf _=>opTo_gives (sem G w ra hs hf),hK⟩
 |val φ x=>
  have h:(tgB tg=true→φ)∧PutD n o.dst tg (fun f'=>D2 c n all t E1 E2 Q l f' a b) f x:=by
   cases tg with
   |sure=>exact ⟨fun _=>h.1,h.2⟩
   |cond b=>exact ⟨h.1,h.2⟩
  obtain ⟨hφ,h⟩:=h
  obtain ⟨hd,hK⟩:=step h
  exact ⟨(tg,x),quiet hd fun G w ra hs hf hb=>opTo_gives (sem G w ra hs hf (hφ hb)),hK⟩
 |call φ g xs=>
  have h:∃ x,(tgB tg=true→φ∧QCall c g xs t x)∧PutD n o.dst tg (fun f'=>D2 c n all t E1 E2 Q l f' a b) f x:=by
   cases tg with
   |sure=>obtain ⟨x,h1,h2⟩:=h;exact ⟨x,fun _=>h1 trivial,h2⟩
   |cond b=>obtain ⟨x,h1,h2⟩:=h;exact ⟨x,h1,h2⟩
  obtain ⟨x,hφ,h⟩:=h
  obtain ⟨hd,hK⟩:=step h
  refine ⟨(tg,x),quiet hd fun G w ra hs hf hb=>?_,hK⟩
  have hφ:=hφ hb
  obtain ⟨vs,hr,hx⟩:=sem G w ra hs hf hφ.1
  exact opTo_call hs hr hx hφ.2.out
 |look r k ihq=>
  obtain ⟨x,hx,h⟩:=h
  exact ihq x h fun G w ra hs hf=>sem G w ra hs hf x hx
/-- An operation that turns one part, whatever stands beside. -/
theorem turn_to {o:Oper} {m:HS} {K:HV→HS→Prop} {q:OpRes} (h:q.turns c m t K) (sem:∀ G w ra,SRel G (m ++ t) w→FRel G n (Fr.only (o.looksAt all) f) ra→ResOK c.P (m ++ t) G w ((execOp ra.eval o).run c.P w) q) :
  ∃ x m',K x m'∧∀ G w ra,SRel G (m ++ t) w→FRel G n (Fr.only (o.looksAt all) f) ra→OpTo c.P o ra w fun u w'=>∃ G',rel G' x u∧Post (m ++ t) G w (m' ++ t) G' w':=by
 induction q with
 |bad=>exact h.elim
 |pan φ x=>exact h.elim
 |pure x=>exact ⟨x,m,h,fun G w ra hs hf=>opTo_gives (sem G w ra hs hf)⟩
 |val φ x=>exact ⟨x,m,h.2,fun G w ra hs hf=>opTo_gives (sem G w ra hs hf h.1)⟩
 |eff W=>
  obtain ⟨x,m',hW,h⟩:=h
  refine ⟨x,m',h,fun G w ra hs hf=>?_⟩
  obtain ⟨y,s',⟨rfl,rfl⟩,hg⟩:=sem G w ra hs hf _ hW
  exact opTo_gives hg
 |call φ g xs=>
  obtain ⟨x,m',hW,h⟩:=h
  refine ⟨x,m',h,fun G w ra hs hf=>?_⟩
  obtain ⟨vs,hr,hx⟩:=sem G w ra hs hf hW.1
  exact opTo_call hs hr hx hW.2.out
 |look r k ihq=>
  obtain ⟨x,hx,h⟩:=h
  exact ihq x h fun G w ra hs hf=>sem G w ra hs hf x hx
theorem perm_side (a b t:HS):(a ++ t ++ b).Perm (a ++ b ++ t):=by
 rw [List.append_assoc,List.append_assoc]
 exact List.Perm.append_left a List.perm_append_comm
theorem perm_side2 (a b t:HS):(b ++ t ++ a).Perm (a ++ b ++ t):=by
 rw [List.append_assoc a]
 exact List.perm_append_comm
theorem D2.one {k:Nat} {l:List Nat} {o:Oper} (hk:all[k]? = some o) (h1:E1.contains k=true) (hact:active all f o=some .sure) {s:HS} (e:a ++ t=s)
  (h:TStp c n a t o.dst (fun f' a'=>D2 c n all t E1 E2 Q l f' a' b) (hop c o.op f s) f):D2 c n all t E1 E2 Q (k::l) f a b:=by
 subst e
 constructor
 simp only [text2,qOp2,hk,h1]
 obtain ⟨x,a',⟨f',hf',hK⟩,hto⟩:=turn_to (all:=all) (f:=f) (n:=n) (o:=o) h.out (fun G w ra hs hf=>d2_sem hs hf)
 obtain ⟨g1,g2⟩:=hput_get hf'
 refine ⟨(.sure,x),a',rfl,fun b=>⟨g2,fun G w ra hs hf=>⟨d2_want hact hf,fun _=>?_⟩⟩,g1 ▸ hK.out⟩
 have hs1:SRel G ((a ++ t) ++ b) w:=hs.permd (perm_side a b t).symm
 exact (hto G w ra (hs1.perm (List.sublist_append_left _ _)) hf.rel).mono fun u w' ⟨G',hr,hp⟩=>⟨G',hr,((Post.frame hs1 hp).permL (perm_side a b t)).permR (perm_side a' b t)⟩
theorem D2.two {k:Nat} {l:List Nat} {o:Oper} (hk:all[k]? = some o) (h1:E1.contains k=false) (h2:E2.contains k=true) (hact:active all f o=some .sure) {s:HS} (e:b ++ t=s)
  (h:TStp c n b t o.dst (fun f' b'=>D2 c n all t E1 E2 Q l f' a b') (hop c o.op f s) f):D2 c n all t E1 E2 Q (k::l) f a b:=by
 subst e
 constructor
 simp only [text2,qOp2,hk,h1,h2]
 obtain ⟨x,b',⟨f',hf',hK⟩,hto⟩:=turn_to (all:=all) (f:=f) (n:=n) (o:=o) h.out (fun G w ra hs hf=>d2_sem hs hf)
 obtain ⟨g1,g2⟩:=hput_get hf'
 refine ⟨(.sure,x),b',rfl,fun a=>⟨g2,fun G w ra hs hf=>⟨d2_want hact hf,fun _=>?_⟩⟩,g1 ▸ hK.out⟩
 have hs1:SRel G ((b ++ t) ++ a) w:=hs.permd (perm_side2 a b t).symm
 exact (hto G w ra (hs1.perm (List.sublist_append_left _ _)) hf.rel).mono fun u w' ⟨G',hr,hp⟩=>⟨G',hr,((Post.frame hs1 hp).permL (perm_side2 a b t)).permR (perm_side2 a b' t)⟩
end
/-- A region whose order is drawn, with two parts that are turned. -/
theorem draw2 (c:Cx) {n id:Nat} {ops:Array Oper} {Q:HExit→Fr→HS→Prop} {f:Fr} {s:HS} (a b t:HS) (E1 E2 l:List Nat) (hp:(a ++ b ++ t).Perm s) (hl:l.length=ops.size) (hB:lex2 ops E1 E2 l (Array.replicate ops.size false)=true)
  (h:D2 c n ops t E1 E2 Q l f a b):DrawReg c.P n id ops Q f s:=
 ⟨⟨fun G w ra hs hf=>by
  have hs':SRel G (a ++ b ++ t) w:=hs.permd hp.symm
  refine wpB_region_any c.orders ?_
  have H:=wpAny2_lex c.P n ops t E1 E2 l _ _ _ _ hB h.out
  rw [hl] at H
  have hp0:Post (a ++ b ++ t) G w (a ++ b ++ t) G { w with drawn:=w.drawn+1}:=Post.drawn hs' rfl rfl rfl rfl
  refine wpAny_of_2 c.P n ops t E1 E2 hs' (fun g a' b' G' w' ra' hp' hf' ⟨f',e,hQ⟩=>?_) ops.size _ _ a b G _ ra hp0 ⟨hf.size,hf.defers,hf.slots⟩ H
  subst e
  exact ⟨.normal,f',a' ++ b' ++ t,G',hQ,trivial,⟨hf'.size,hf'.defers,hf'.slots⟩,hp'.permL hp⟩⟩⟩
end
end Go.Proofs.Hk

set_option linter.unusedVariables false
namespace Go.Proofs.Hk
noncomputable section
open Go
theorem relCs_swap {G:Ghost} {x y:HV} (hy:y.kd = .one) (h:∀ u,relC G x [u]→relC G y [u]):∀ {pre post:List HV} {us:List Value},relCs G (pre ++ x::post) us→relCs G (pre ++ y::post) us
 |[],post,us,k=>by
  simp only [List.nil_append,relCs] at k ⊢
  obtain ⟨u,us',e,⟨_,h1⟩,h2⟩:=k
  exact ⟨u,us',e,⟨hy,h u h1⟩,h2⟩
 |z::pre,post,us,k=>by
  simp only [List.cons_append,relCs] at k ⊢
  obtain ⟨u,us',e,h1,h2⟩:=k
  exact ⟨u,us',e,h1,relCs_swap hy h h2⟩
/-- A nil slice in a cell becomes a row of one's own. -/
theorem sem_cellOwn (c:Cx) {n:Nat} {code:Code} {Q:HExit→Fr→HS→Prop} {a:Fr} {s s0:HS} {t:TypeId} (r sz:Nat) (pre post:List HV) (hp:HPick s r (.cells (pre ++ .v (.slice none 0 0)::post) t) s0)
  (h:∀ q,q∉keys s→SemWp c.P n code Q a ((q,.tok 0)::(r,.cells (pre ++ .list (.own q 0) sz []::post) t)::s0)):SemWp c.P n code Q a s:=
 ⟨fun G w ra hs hf=>by
  obtain ⟨G',le,ht,P1⟩:=post_tok hs 0
  have hs1:=P1.srel
  have hpm:((G.lim,Res.tok 0)::(r,.cells (pre ++ .v (.slice none 0 0)::post) t)::s0).Perm ((G.lim,.tok 0)::s):=List.Perm.cons _ hp.perm
  have hs2:=hs1.permd hpm.symm
  have hs3:SRel G' ((G.lim,.tok 0)::(r,.cells (pre ++ .list (.own G.lim 0) sz []::post) t)::s0) w:=by
   refine ⟨hs2.kw,hs2.keys,fun q x hx=>?_,hs2.fresh,hs2.role⟩
   rcases List.mem_cons.1 hx with e|hx
   ·cases e;exact hs2.holds _ _ List.mem_cons_self
   ·rcases List.mem_cons.1 hx with e|hx
    ·cases e
     obtain ⟨b,vs,e1,ro,hh,hc,hK⟩:=hs2.holds r _ (List.mem_cons_of_mem _ List.mem_cons_self)
     refine ⟨b,vs,e1,ro,hh,relCs_swap rfl (fun u hu=>?_) hc,hK⟩
     simp only [relC,List.cons.injEq,and_true] at hu
     simp only [relC]
     exact .inl ⟨by first|rfl|exact True.intro,by rw [hu.1],⟨_,ht,Nat.zero_le _⟩⟩
    ·exact hs2.holds q x (List.mem_cons_of_mem _ (List.mem_cons_of_mem _ hx))
  have P2:Post s G w ((G.lim,.tok 0)::(r,.cells (pre ++ .list (.own G.lim 0) sz []::post) t)::s0) G' w:=⟨hs3,P1.ext,fun q hq=>P1.names q (by
   have e:keys ((G.lim,Res.tok 0)::(r,.cells (pre ++ .list (.own G.lim 0) sz []::post) t)::s0)=keys ((G.lim,Res.tok 0)::(r,.cells (pre ++ .v (.slice none 0 0)::post) t)::s0):=rfl
   rw [e] at hq
   obtain ⟨y,hy,rfl⟩:=List.mem_map.1 hq
   exact List.mem_map.2 ⟨y,hpm.mem_iff.1 hy,rfl⟩)⟩
  exact (h G.lim (fun hm=>by have:=hs.lt_key hm;omega)).lift hs P2 (hf.mono le)⟩
theorem TStp.callF {c:Cx} {n:Nat} {m m' t:HS} {dst:Option Tmp} {K:Fr→HS→Prop} {a:Fr} {φ:Prop} {f:FuncId} {xs:List HV} {x:HV} (hφ:φ) (h:HCalls c.P f xs m fun e s1=>e = .ret x∧s1=m') (k:PutD n dst .sure (fun a'=>K a' m') a x):TStp c n m t dst K (.call φ f xs) a:=
 TStp.call m' hφ (HCalls.use (t:=t) (R':=fun e st=>e = .ret x∧st=m' ++ t) h (.refl _) fun e s1 ⟨h1,h2⟩=>⟨h1,by rw [h2]⟩) k
theorem ToOwn.weak {P:Program} {f:FuncId} {xs:List HV} {s s2:HS} {sz:Nat} {l:List HV} (h:ToOwn P f xs s sz l s2):HCalls P f xs s fun e st=>e = .ret (.list .no sz l)∧st=s2:=
 HCalls.weaken h fun e s1 ⟨rt,h1,h2⟩=>⟨.ret (.list .no sz l),s2,by rw [h1];exact .ret (Weaker.tok _ _ _),by rw [h2];exact (Subp.refl _).skip _,rfl,rfl⟩
theorem draw2' (c:Cx) {n id:Nat} {ops:Array Oper} {Q:HExit→Fr→HS→Prop} {f:Fr} {s:HS} (a b:HS) {ab t:HS} (e:a ++ b=ab) (E1 E2 l:List Nat) (p:HTake s ab t) (hl:l.length=ops.size) (hB:lex2 ops E1 E2 l (Array.replicate ops.size false)=true)
  (h:D2 c n ops t E1 E2 Q l f a b):DrawReg c.P n id ops Q f s:=draw2 c a b t E1 E2 l (by rw [e];exact p.perm) hl hB h
structure PCallT (c:Cx) (o:Oper) (m t:HS) (x:HV) (m':HS) (a:Fr):Prop where
 out:∃ φ f xs,hop c o.op a (m ++ t) = .call φ f xs∧φ∧HCalls c.P f xs m fun e st=>e = .pan x∧st=m'
theorem PCallT.mk' {c:Cx} {o:Oper} {m t:HS} {x:HV} {m':HS} {a:Fr} {φ:Prop} {f:FuncId} {xs:List HV} (h:hop c o.op a (m ++ t) = .call φ f xs) (hφ:φ) (hc:HCalls c.P f xs m fun e st=>e = .pan x∧st=m'):PCallT c o m t x m' a:=⟨φ,f,xs,h,hφ,hc⟩
theorem drawPan' (c:Cx) {n id:Nat} {ops:Array Oper} {Q:HExit→Fr→HS→Prop} {a:Fr} {s:HS} (m m':HS) {t:HS} (p:Nat) (dead alive:List Nat) (S:List Tmp) (x:HV) {po:Oper} (pt:HTake s m t) (hpo:ops[p]? = some po)
  (hB:panB ops [] p dead S po=true) (hL:lexAl ops [] alive (marked p dead (Array.replicate ops.size false))=true) (hn:Nat.blt alive.length ops.size=true) (hd:dead.all (fun d=>Nat.blt d ops.size)=true)
  (h:DOpsL c n ops t (fun a'=>active ops a' po=some .sure∧PCallT c po m t x m' a') alive a) (hQ:forceL (m' ++ t) (Q (.pan x) (Fr.only S a))):DrawReg c.P n id ops Q a s:=by
 rw [forceL_eq] at hQ
 refine drawPan c m t p dead alive S x (m' ++ t) pt.perm hpo hB hL hn hd ?_ hQ
 have mono:∀ (F F':Fr→Prop),(∀ a,F a→F' a)→DOpsL c n ops t F alive a→DOpsL c n ops t F' alive a:=fun F F' hF ⟨h⟩=>⟨fun m=>by
  have:∀ (l:List Nat) (g:GF) (m0:HS) (A B:GF→HS→Prop),(∀ g m,A g m→B g m)→textAl c.P n ops t [] A l g m0→textAl c.P n ops t [] B l g m0:=by
   intro l
   induction l with
   |nil=>intro g m0 A B hab hh;exact hab _ _ hh
   |cons k l ih=>intro g m0 A B hab hh;exact qOpH_mono c.P n ops t [] (fun g m=>ih g m A B hab) hh
  exact this _ _ _ _ _ (fun g m1 ⟨e,a',hg,hf⟩=>⟨e,a',hg,hF _ hf⟩) (h m)⟩
 refine mono _ _ (fun a' ⟨h1,h2⟩=>⟨h1,?_⟩) h
 obtain ⟨φ,f,xs,k1,hφ,hc⟩:=h2.out
 exact ⟨φ,f,xs,m',k1,hφ,HCalls.use (t:=t) (R':=fun e st=>e = .pan x∧st=m' ++ t) hc (.refl _) fun e s1 ⟨g1,g2⟩=>⟨g1,by rw [g2]⟩,rfl⟩
/-- The same, by the contract of the call that panics. -/
theorem drawPanC (c:Cx) {n id:Nat} {ops:Array Oper} {Q:HExit→Fr→HS→Prop} {a:Fr} {s m m' t:HS} {f:FuncId} {xs:List HV} {x:HV} (p:Nat) (dead alive:List Nat) (S:List Tmp) (hc:HCalls c.P f xs m fun e st=>e = .pan x∧st=m') {po:Oper} (pt:HTake s m t) (hpo:ops[p]? = some po)
  (hB:panB ops [] p dead S po=true) (hL:lexAl ops [] alive (marked p dead (Array.replicate ops.size false))=true) (hn:Nat.blt alive.length ops.size=true) (hd:dead.all (fun d=>Nat.blt d ops.size)=true)
  (h:DOpsL c n ops t (fun a'=>active ops a' po=some .sure∧∃ φ,hop c po.op a' (m ++ t) = .call φ f xs∧φ) alive a) (hQ:forceL (m' ++ t) (Q (.pan x) (Fr.only S a))):DrawReg c.P n id ops Q a s:=by
 refine drawPan' c m m' p dead alive S x pt hpo hB hL hn hd ?_ hQ
 refine ⟨fun m0=>?_⟩
 have:∀ (l:List Nat) (g:GF) (m0:HS) (A B:GF→HS→Prop),(∀ g m,A g m→B g m)→textAl c.P n ops t [] A l g m0→textAl c.P n ops t [] B l g m0:=by
  intro l
  induction l with
  |nil=>intro g m0 A B hab hh;exact hab _ _ hh
  |cons k l ih=>intro g m0 A B hab hh;exact qOpH_mono c.P n ops t [] (fun g m=>ih g m A B hab) hh
 exact this _ _ _ _ _ (fun g m1 ⟨e,a',hg,h1,φ,h2,h3⟩=>⟨e,a',hg,h1,PCallT.mk' h2 h3 hc⟩) (h.out m0)
end
end Go.Proofs.Hk

set_option linter.unusedVariables false
namespace Go.Proofs.Hk
noncomputable section
open Go
/-- A call that reads the state and leaves it. -/
theorem QCall.st {c:Cx} {f:FuncId} {xs:List HV} {x:HV} {m t s:HS} (h:HCalls c.P f xs m fun e st=>e = .ret x∧st=m) (p:HTake s m t):QCall c f xs s x:=
 ⟨HCalls.weaken (HCalls.use (t:=t) (R':=fun e st=>e = .ret x∧st=m ++ t) h p.perm fun e s1 ⟨h1,h2⟩=>⟨h1,by rw [h2]⟩) fun e s1 ⟨h1,h2⟩=>⟨.ret x,s,by rw [h1];exact WeakerE.refl _,by rw [h2];exact ⟨s,p.perm.symm,.refl _⟩,rfl,rfl⟩⟩
theorem askS {c:Cx} {f:FuncId} {xs:List HV} {x:HV} {m u t:HS} {on:Prop} {φ:Prop} {K:HV→Prop} (h:HCalls c.P f xs m fun e st=>e = .ret x∧st=m) (p:HTake t m u) (hφ:on→φ) (hk:K x):QAsk on c f xs t φ K:=⟨x,fun h1=>⟨hφ h1,QCall.st h p⟩,hk⟩
theorem askSC {c:Cx} {f:FuncId} {xs:List HV} {x:HV} {m u t:HS} {b:Bool} {φ on off:Prop} {K:HV→Prop} (h:HCalls c.P f xs m fun e st=>e = .ret x∧st=m) (p:HTake t m u) (hφ:b=true→φ) (hk:K x):CallC c b f xs t φ K on off:=⟨.inl (askS h p hφ hk)⟩
end
end Go.Proofs.Hk

set_option linter.unusedVariables false
namespace Go.Proofs.Hk
noncomputable section
open Go
/-! Functions that defer one call. -/
theorem upon_gives0 {P:Program} {o:Oper} {ra:Act} {next:Act→World→Prop} {QR:Exit→Act→World→Prop} {r:Result Next} {u:Value} {w':World} (hy:Yields r u w') (h:next (ra.put o.dst u) w'):o.upon P ra next QR r:=by
 rcases hy with rfl|⟨rfl,rfl⟩
 ·exact h
 ·exact h
def doneR (s:HS) (G:Ghost) (w:World) (R:HEnd→HS→Prop):Ending→World→Prop:=fun e w'=>∃ he s' G',R he s'∧endRel G' he e∧Post s G w s' G' w'
/-- The rest of a function, ahead of its defer. -/
structure SemD (c:Cx) (fn:Func) (R:HEnd→HS→Prop) (code:Code) (a:Fr) (s:HS):Prop where
 out:∀ s0 G0 w0 G w ra,G.df=[]→SRel G0 s0 w0→Post s0 G0 w0 s G w→FRel G fn.ntmps a ra→code.wp c.P (bodyPostD c.P fn (doneR s0 G0 w0 R)) ra w
/-- What a function's results are, read out of a frame. -/
def ResQ (c:Cx) (rs:List ResultVar) (R:HEnd→HS→Prop) (a:Fr) (s:HS):Prop:=resG c a s rs fun xs=>Fin (R (.ret (tupOf xs)) s)
theorem resQ_ok {c:Cx} {fn:Func} {R:HEnd→HS→Prop} {a:Fr} {s:HS} {G:Ghost} {w:World} {ra:Act} (hs:SRel G s w) (hf:FRel G fn.ntmps a ra) (h:ResQ c fn.results.toList R a s) :
  ∃ v,(results fn ra.tmps).run c.P w = .ok v w∧∃ he,R he s∧endRel G he (.returned v):=by
 obtain ⟨us,xs,h1,h2,h3⟩:=resG_ok hs hf h
 have hus:=relVs_length h2
 have hrun:(fn.results.mapM (rdRes ra.tmps):Sem (Array Value)).run c.P w = .ok us.toArray w:=by
  rw [←Array.toArray_toList (xs:=fn.results),List.mapM_toArray,Sem.run_map]
  rw [h1];rfl
 have hres:(results fn ra.tmps).run c.P w = .ok (if h:us.toArray.size=1 then us.toArray[0] else .tuple us.toArray) w:=by
  rw [results_eq,Sem.run_bind,hrun]
  rfl
 match xs,h3,h2,hus with
 |[x],h3,h2,hus=>
  simp only [relVs_cons] at h2
  obtain ⟨u,us',rfl,hr1,hr2⟩:=h2
  simp only [relVs] at hr2
  subst hr2
  exact ⟨u,hres,_,h3.out,hr1⟩
 |[],h3,h2,hus=>
  simp only [relVs] at h2
  subst h2
  exact ⟨_,hres,_,h3.out,(show rel G (.tup []) (.tuple [].toArray) from tup_rel (by simp [relVs]))⟩
 |x::y::l,h3,h2,hus=>
  have hne:¬ us.toArray.size=1:=by simp at hus ⊢;omega
  rw [dif_neg hne] at hres
  exact ⟨_,hres,_,h3.out,tup_rel h2⟩
theorem sem_callsD (c:Cx) {f:FuncId} {fn:Func} {code:Code} {args:List HV} {a:Fr} {s:HS} {R:HEnd→HS→Prop} (hf:c.P.funcs[f]? = some fn) (hb:fn.body=some code) (hn:Nat.ble args.length fn.ntmps=true) (ha:initFr args 0=a)
  (h:SemD c fn R code a s):HCalls c.P f args s R:=
 HCalls.of_df fun G w vs hdf hs hargs=>by
  subst ha
  have hl:=relVs_length hargs
  have hn:=Nat.le_of_ble_eq_true hn
  have hsz:vs.size=args.length:=by simpa using hl
  refine calls_of_wp_defers hf hb (h.out s G w G w _ hdf hs (.refl hs) ⟨by simp;omega,hdf.symm,fun t g x e=>?_⟩)
  obtain ⟨rfl,i,rfl,hx⟩:=initFr_get args 0 t g x e
  obtain ⟨u,hu,hr⟩:=relVs_get hargs i x hx
  have hi:i < args.length:=(List.getElem?_eq_some_iff.1 hx).1
  refine ⟨by omega,?_⟩
  have:(vs ++ Array.replicate (fn.ntmps - vs.size) undef).getD (0+i) undef=u:=by
   rw [Nat.zero_add,Array.getD_eq_getD_getElem?,Array.getElem?_append_left (by omega)]
   have:vs[i]? = some u:=by simpa using hu
   rw [this];rfl
  rw [this]
  exact hr
/-- Ahead of the defer: a piece by the small rules. -/
structure SeqD (c:Cx) (fn:Func) (R:HEnd→HS→Prop) (y:Code) (e:HExit) (a:Fr) (s:HS):Prop where
 out:match e with
  |.normal=>SemD c fn R y a s
  |.ret=>ResQ c fn.results.toList R a s
  |.pan v=>R (.pan v) s
  |.exit _=>False
theorem semD_seq (c:Cx) {fn:Func} {R:HEnd→HS→Prop} {x y:Code} {a:Fr} {s:HS} (h:SemWp c.P fn.ntmps x (SeqD c fn R y) a s):SemD c fn R (.seq x y) a s:=
 ⟨fun s0 G0 w0 G w ra hdf hs0 hp hf=>wp_seq (wp_mono (h.out G w ra hp.srel hf).wp fun e ra' w' ⟨he,a',s',G',q,hr,hf',hp'⟩=>by
  have hd:ra'.defers=[]:=hf'.defers.trans (hp'.ext.le.df.trans hdf)
  have q:=q.out
  cases he with
  |normal=>
   cases e<;>first|exact hr.elim|skip
   exact q.out s0 G0 w0 G' w' ra' (hp'.ext.le.df.trans hdf) hs0 (hp.trans hs0 hp') hf'
  |ret=>
   cases e<;>first|exact hr.elim|skip
   obtain ⟨v,hv,he,hR,hend⟩:=resQ_ok hp'.srel hf' q
   show Leaves _ _ _ _ ra'.defers .returning w'
   rw [hd]
   exact ⟨v,hv,he,s',G',hR,hend,hp.trans hs0 hp'⟩
  |pan v=>
   cases e<;>first|exact hr.elim|skip
   show Leaves _ _ _ _ ra'.defers (.panicking _) w'
   rw [hd]
   exact ⟨.pan v,s',G',q,hr,hp.trans hs0 hp'⟩
  |exit i=>exact q.elim)⟩
theorem SeqD.go {c:Cx} {fn:Func} {R:HEnd→HS→Prop} {y:Code} {a:Fr} {s:HS} (h:SemD c fn R y a s):SeqD c fn R y .normal a s:=⟨h⟩
theorem SeqD.ret {c:Cx} {fn:Func} {R:HEnd→HS→Prop} {y:Code} {a:Fr} {s:HS} (h:ResG c a s fn.results.toList fun xs=>Fin (R (.ret (tupOf xs)) s)):SeqD c fn R y .ret a s:=⟨h.out⟩
theorem SeqD.id {c:Cx} {fn:Func} {R:HEnd→HS→Prop} {y:Code} {e:HExit} {a:Fr} {s:HS} (h:SeqD c fn R y e a s):SeqD c fn R y e a s:=h
theorem semD_assoc (c:Cx) {fn:Func} {R:HEnd→HS→Prop} {x y:Code} {a:Fr} {s:HS} (h:SemWp c.P fn.ntmps x (SeqD c fn R y) a s):SemD c fn R (.seq x y) a s:=semD_seq c h
/-- A deferred call as the function returns, and as it panics. -/
structure DRet (c:Cx) (g:FuncId) (xs:List HV) (s s':HS):Prop where
 out:∀ G w vs,SRel G s w→relVs G xs vs.toList→CallsD c.P g vs .returning w fun e u w'=>(∃ v,e = .returned v)∧u = .returning∧∃ G',Post s G w s' G' w'
structure DPan (c:Cx) (g:FuncId) (xs:List HV) (v:HV) (s s':HS):Prop where
 out:∀ G w vs u,SRel G s w→relVs G xs vs.toList→rel G v u→CallsD c.P g vs (.panicking [{ v:=u,recovered:=false}]) w fun e u' w'=>(∃ v,e = .returned v)∧(∃ z,u' = .panicking [{ v:=z,recovered:=true}])∧∃ G',Post s G w s' G' w'
/-- The end of a function that has deferred a call. -/
structure EndD (c:Cx) (fn:Func) (R:HEnd→HS→Prop) (g:FuncId) (xs:List HV) (e:HExit) (a:Fr) (s:HS):Prop where
 out:match e with
  |.pan v=>∃ s',DPan c g xs v s s'∧ResQ c fn.results.toList R a s'
  |.exit _=>False
  |_=>∃ s',DRet c g xs s s'∧ResQ c fn.results.toList R a s'
theorem EndD.id {c:Cx} {fn:Func} {R:HEnd→HS→Prop} {g:FuncId} {xs:List HV} {e:HExit} {a:Fr} {s:HS} (h:EndD c fn R g xs e a s):EndD c fn R g xs e a s:=h
theorem EndD.ret {c:Cx} {fn:Func} {R:HEnd→HS→Prop} {g:FuncId} {xs:List HV} {a:Fr} {s:HS} (s':HS) (h:DRet c g xs s s') (k:ResG c a s' fn.results.toList fun xs=>Fin (R (.ret (tupOf xs)) s')):EndD c fn R g xs .ret a s:=⟨s',h,k.out⟩
theorem EndD.pan {c:Cx} {fn:Func} {R:HEnd→HS→Prop} {g:FuncId} {xs:List HV} {v:HV} {a:Fr} {s:HS} (s':HS) (h:DPan c g xs v s s') (k:ResG c a s' fn.results.toList fun xs=>Fin (R (.ret (tupOf xs)) s')):EndD c fn R g xs (.pan v) a s:=⟨s',h,k.out⟩
theorem FRel.df {G:Ghost} {n:Nat} {a:Fr} {ra:Act} (h:FRel G n a ra) (D:List Deferred):FRel (G.on D) n a { ra with defers:=D}:=
 ⟨h.size,rfl,fun t g x e=>⟨(h.slots t g x e).1,by
  have k:=(h.slots t g x e).2
  cases g with
  |sure=>exact rel.mono0 (G.on_le D) k
  |cond b=>exact ⟨fun hb=>(k.1 hb).mono0 (G.on_le D),k.2⟩⟩⟩
theorem semD_defer (c:Cx) {fn:Func} {R:HEnd→HS→Prop} {id:Nat} {o1 o2:Oper} {rest:Code} {a a':Fr} {s:HS} (t:Tmp) {g:FuncId} {fi ca:List HV} {cl:Call}
  (ha1:active #[o1,o2] a o1=some .sure) (hx:hop c o1.op a s = .pure (.fn (.func g) fi ca)) (hp1:hput fn.ntmps o1.dst .sure (.fn (.func g) fi ca) a=some a')
  (ha2:active #[o1,o2] a' o2=some .sure) (ho2:o2.op = .defer cl) (hcl:cl.callee = .value (.tmp t)) (hca:cl.args = #[]) (hd2:o2.dst=none) (hg:a'.get t=some (.sure,.fn (.func g) fi ca)) (hk:c.fn g=true)
  (h:SemWp c.P fn.ntmps rest (EndD c fn R g (fi ++ ca)) a' s):SemD c fn R (.seq (.region id #[o1,o2] false) rest) a s:=
 ⟨fun s0 G0 w0 G w ra hdf hs0 hp hf=>by
  refine wp_seq (wp_region ?_)
  show wpOps c.P #[o1,o2] _ [0,1] ra w
  have hw1:=active_ok hf ha1
  have hsem:=hop_ok c hp.srel hf o1
  rw [hx] at hsem
  obtain ⟨u,w',G',hy,hr,hp'⟩:=hsem
  have hf1:=(hf.mono hp'.ext.le).put (u:=u) hp1 hr
  have hw2:=active_ok hf1 ha2
  simp only [wpOps,show (#[o1,o2]:Array Oper)[0]? = some o1 from rfl,show (#[o1,o2]:Array Oper)[1]? = some o2 from rfl]
  simp only [] at hw1 hw2
  rw [hw1]
  simp only [if_true]
  refine .inl (upon_gives0 hy ?_)
  rw [hw2]
  simp only [if_true]
  refine .inl ?_
  obtain ⟨_,hv⟩:=hf1.slots t _ _ hg
  have hv:rel G' (.fn (.func g) fi ca) ((ra.put o1.dst u).tmps.getD t undef):=hv
  obtain ⟨A,B,hAB,h1,h2⟩:=rel_fn hv
  obtain ⟨cal,cargs,cts⟩:=cl
  simp only at hcl hca
  subst hcl hca
  obtain ⟨dn,hdn,hbn,hnn⟩:=c.fn_ok g hk
  have hn':¬ dn.name = "runtime.NumGoroutine":=by simpa using hnn
  have hb':¬ dn.body=none:=by intro e;rw [e] at hbn;cases hbn
  have hev:(ra.put o1.dst u).eval (.tmp t) = .func (.func g) A B:=by rw [←hAB];rfl
  have hrun:(execOp (ra.put o1.dst u).eval o2).run c.P w' = .ok (.defer { target:=.fn (.func g) B,args:=A ++ #[]}) w':=by
   simp [execOp,ho2,resolve,hev,Deferred.ofValue,Sem.run]
  have hinv:∀ w,(invoke (.fn (.func g) B) (A ++ #[])).run c.P w = .ok (.enter g (A ++ #[] ++ B)) w:=fun w=>by
   simp [invoke,callFunc,program,Sem.run,hdn,hn',hb']
  unfold Oper.wp
  rw [hrun,Oper.upon_defer,hd2]
  have hdf1:(ra.put o1.dst u).defers=[]:=hf1.defers.trans (hp'.ext.le.df.trans hdf)
  generalize hra:ra.put o1.dst u=r1 at *
  generalize hd:({ target:=.fn (.func g) B,args:=A ++ #[]} : Deferred)=d at *
  show rest.wp c.P _ { r1 with defers:=d::r1.defers} w'
  rw [hdf1]
  have hvs:relVs G' (fi ++ ca) (A ++ #[] ++ B).toList:=by simpa using relVs_append h1 h2
  refine wp_mono (h.out (G'.on [d]) w' _ (hp'.srel.on [d]) (hf1.df [d])).wp fun e ra2 w2 ⟨he,a2,s2,G2,q,hr2,hf2,hp2⟩=>?_
  have hd2':ra2.defers=[d]:=hf2.defers.trans (hp2.ext.le.df)
  have hvs2:relVs G2 (fi ++ ca) (A ++ #[] ++ B).toList:=relVs.mono0 hp2.ext.le.to0 _ _ (relVs.mono0 (G'.on_le [d]) _ _ hvs)
  have fin:∀ {s3:HS} {G3:Ghost} {w3:World},Post s2 G2 w2 s3 G3 w3→ResQ c fn.results.toList R a2 s3→Leaves c.P fn ra2.tmps (doneR s0 G0 w0 R) [] .returning w3:=fun {s3 G3 w3} hp3 hq=>by
   obtain ⟨v,hv,he,hR,hend⟩:=resQ_ok hp3.srel (hf2.mono hp3.ext.le) hq
   exact ⟨v,hv,he,s3,G3.on G'.df,hR,hend.on _,hp.trans hs0 (hp'.trans hp.srel (hp2.trans (hp'.srel.on [d]) hp3).on)⟩
  have q:=q.out
  have ret:(∃ s',DRet c g (fi ++ ca) s2 s'∧ResQ c fn.results.toList R a2 s')→Leaves c.P fn ra2.tmps (doneR s0 G0 w0 R) ra2.defers .returning w2:=fun ⟨s3,hD,hq⟩=>by
   rw [hd2',←hd]
   refine leaves_cons (by intro e;cases e) (hinv w2) ((hD.out G2 w2 _ hp2.srel hvs2).mono fun e u' w3 ⟨⟨v,e1⟩,e2,G3,hp3⟩=>?_)
   subst e1 e2
   exact fin hp3 hq
  cases he with
  |normal=>
   cases e<;>first|exact hr2.elim|skip
   exact ret q
  |ret=>
   cases e<;>first|exact hr2.elim|skip
   exact ret q
  |pan v=>
   cases e<;>first|exact hr2.elim|skip
   obtain ⟨u2,hch,hu2⟩:=hr2
   obtain ⟨s3,hD,hq⟩:=q
   subst hch
   show Leaves c.P fn ra2.tmps (doneR s0 G0 w0 R) ra2.defers _ w2
   rw [hd2',←hd]
   refine leaves_cons (by intro e;cases e) (hinv w2) ((hD.out G2 w2 _ u2 hp2.srel hvs2 hu2).mono fun e u' w3 ⟨⟨v,e1⟩,⟨z,e2⟩,G3,hp3⟩=>?_)
   subst e1 e2
   exact fin hp3 hq
  |exit i=>exact q.elim⟩
end
end Go.Proofs.Hk

set_option linter.unusedVariables false
set_option linter.unusedSimpArgs false
namespace Go.Proofs.Hk
noncomputable section
open Go
/-! A deferred closure that recovers: it asks whether there was a panic, and works in that case alone. -/
theorem recover_run {c:Cx} {G:Ghost} {o1:Oper} {ra:Act} {cl:Call} {w:World} (ho:o1.op = .call cl) (hc:cl.callee = .builtin .recover) (ha:cl.args = #[]):(execOp ra.eval o1).run c.P w = .ok .recover w:=by
 obtain ⟨ce,as',ts⟩:=cl
 simp only at hc ha
 subst hc ha
 simp [execOp,ho,resolve,invoke,builtin,Sem.run]
section
variable (c:Cx) {fn:Func} {g:FuncId} {id:Nat} {o1 o2:Oper} {X:Code} {xs:List HV} {s s':HS} {cl:Call} {t5:Tmp}
/-- What the ask comes to. -/
theorem ask_ok {b:Bool} {v:HV} {a1 a2:Fr} {G:Ghost} {w:World} {ra:Act} {u:Value} {cs cs':List Frame} {Q:Exit→Act→List Frame→World→Prop} (hs:SRel G s w)
  (hf:FRel G fn.ntmps (initFr xs 0) ra) (ho1:o1.op = .call cl) (hc:cl.callee = .builtin .recover) (ha:cl.args = #[]) (hact1:active #[o1,o2] (initFr xs 0) o1=some .sure)
  (hp1:hput fn.ntmps o1.dst .sure v (initFr xs 0)=some a1) (hu:rel G v u) (hrec:(match recoverD cs with|some (v,cs')=>(v,cs')|none=>(.nilIface,cs))=(u,cs'))
  (hact2:active #[o1,o2] a1 o2=some .sure) (hx2:hop c o2.op a1 s = .pure (.v (.bool b))) (hp2:hput fn.ntmps o2.dst .sure (.v (.bool b)) a1=some a2)
  (k:∀ G' w' ra',Post s G w s G' w'→FRel G' fn.ntmps a2 ra'→Q .normal ra' cs' w'):wpOpsS c.P #[o1,o2] Q [0,1] ra cs w:=by
 have hw1:=active_ok hf hact1
 have hf1:=hf.put (u:=u) hp1 hu
 have hw2:=active_ok hf1 hact2
 have hsem:=hop_ok c hs hf1 o2
 rw [hx2] at hsem
 obtain ⟨u2,w',G',hy,hr,hp'⟩:=hsem
 have hf2:=(hf1.mono hp'.ext.le).put (u:=u2) hp2 hr
 have key:wpOpsS c.P #[o1,o2] Q [1] (ra.put o1.dst u) cs' w:=by
  simp only [wpOpsS,show (#[o1,o2]:Array Oper)[1]? = some o2 from rfl]
  simp only [] at hw2
  rw [hw2]
  simp only [if_true]
  rcases hy with hy|⟨hy,rfl⟩
  ·rw [hy]
   exact k G' w' _ hp' hf2
  ·rw [hy]
   exact k G' w' _ hp' hf2
 unfold wpOpsS
 simp only [show (#[o1,o2]:Array Oper)[0]? = some o1 from rfl]
 simp only [] at hw1
 rw [hw1]
 simp only [if_true]
 rw [recover_run (c:=c) (G:=G) ho1 hc ha]
 simp only []
 cases hd:recoverD cs with
 |none=>
  rw [hd] at hrec
  simp only [Prod.mk.injEq] at hrec
  obtain ⟨rfl,rfl⟩:=hrec
  exact key
 |some p=>
  obtain ⟨v',cs''⟩:=p
  rw [hd] at hrec
  simp only [Prod.mk.injEq] at hrec
  obtain ⟨rfl,rfl⟩:=hrec
  exact key
theorem init_rel {c:Cx} {G:Ghost} {w:World} {vs:Array Value} {n:Nat} (hdf:G.df=[]) (hargs:relVs G xs vs.toList) (hn:Nat.ble xs.length n=true):FRel G n (initFr xs 0) { tmps:=vs ++ Array.replicate (n - vs.size) undef,defers:=[]}:=by
 have hl:=relVs_length hargs
 have hn:=Nat.le_of_ble_eq_true hn
 have hsz:vs.size=xs.length:=by simpa using hl
 refine ⟨by simp;omega,hdf.symm,fun t g x e=>?_⟩
 obtain ⟨rfl,i,rfl,hx⟩:=initFr_get xs 0 t g x e
 obtain ⟨u,hu,hr⟩:=relVs_get hargs i x hx
 have hi:i < xs.length:=(List.getElem?_eq_some_iff.1 hx).1
 refine ⟨by omega,?_⟩
 have:(vs ++ Array.replicate (n - vs.size) undef).getD (0+i) undef=u:=by
  rw [Nat.zero_add,Array.getD_eq_getD_getElem?,Array.getElem?_append_left (by omega)]
  have:vs[i]? = some u:=by simpa using hu
  rw [this];rfl
 rw [this]
 exact hr
theorem dret_rec (hfn:c.P.funcs[g]? = some fn) (hb:fn.body=some (.seq (.region id #[o1,o2] false) (.cond (.tmp t5) X .skip))) (hres:fn.results = #[]) (hn:Nat.ble xs.length fn.ntmps=true) {a1 a2:Fr}
  (ho1:o1.op = .call cl) (hc:cl.callee = .builtin .recover) (ha:cl.args = #[]) (hact1:active #[o1,o2] (initFr xs 0) o1=some .sure)
  (hp1:hput fn.ntmps o1.dst .sure (.v .nilIface) (initFr xs 0)=some a1)
  (hact2:active #[o1,o2] a1 o2=some .sure) (hx2:hop c o2.op a1 s = .pure (.v (.bool false))) (hp2:hput fn.ntmps o2.dst .sure (.v (.bool false)) a1=some a2) (hg:a2.get t5=some (.sure,.v (.bool false))):DRet c g xs s s:=
 ⟨fun G w vs hs hargs=>callsD_of_wpS hfn hb fun c0 cs hc0=>by
  have hs1:=hs.on []
  have ha1:relVs (G.on []) xs vs.toList:=relVs.mono0 (G.on_le []) _ _ hargs
  refine wpS_seq (wpS_region ?_)
  show wpOpsS c.P #[o1,o2] _ [0,1] _ _ _
  refine ask_ok c hs1 (init_rel (c:=c) (w:=w) rfl ha1 hn) ho1 hc ha hact1 hp1 (rel_v _) (cs':=c0::cs) (by simp [recoverD,hc0]) hact2 hx2 hp2 fun G' w' ra' hp hf=>?_
  refine wpS_cond (t:=false) ?_ ?_
  ·obtain ⟨_,hv⟩:=hf.slots t5 _ _ hg
   exact rel_v_eq (show rel G' (.v (.bool false)) (ra'.tmps.getD t5 undef) from hv)
  ·refine wpS_of_wp (wp_skip ?_)
   refine ⟨hf.defers.trans hp.ext.le.df,.returning,by rw [←hc0],.tuple #[],by rw [results_eq,hres];simp,⟨_,rfl⟩,rfl,G'.on G.df,hp.on⟩⟩
theorem dpan_rec (hfn:c.P.funcs[g]? = some fn) (hb:fn.body=some (.seq (.region id #[o1,o2] false) (.cond (.tmp t5) X .skip))) (hres:fn.results = #[]) (hn:Nat.ble xs.length fn.ntmps=true) {v:HV} {a1 a2:Fr}
  (ho1:o1.op = .call cl) (hc:cl.callee = .builtin .recover) (ha:cl.args = #[]) (hact1:active #[o1,o2] (initFr xs 0) o1=some .sure)
  (hp1:hput fn.ntmps o1.dst .sure v (initFr xs 0)=some a1)
  (hact2:active #[o1,o2] a1 o2=some .sure) (hx2:hop c o2.op a1 s = .pure (.v (.bool true))) (hp2:hput fn.ntmps o2.dst .sure (.v (.bool true)) a1=some a2) (hg:a2.get t5=some (.sure,.v (.bool true)))
  (h:SemWp c.P fn.ntmps X (fun e _ s1=>Fin (e = .normal∧Subp s' s1)) a2 s):DPan c g xs v s s':=
 ⟨fun G w vs u hs hargs hu=>callsD_of_wpS hfn hb fun c0 cs hc0=>by
  have hs1:=hs.on []
  have ha1:relVs (G.on []) xs vs.toList:=relVs.mono0 (G.on_le []) _ _ hargs
  refine wpS_seq (wpS_region ?_)
  show wpOpsS c.P #[o1,o2] _ [0,1] _ _ _
  refine ask_ok c hs1 (init_rel (c:=c) (w:=w) rfl ha1 hn) ho1 hc ha hact1 hp1 (rel.mono0 (G.on_le []) hu) (cs':={ c0 with mode:=.panicking [{ v:=u,recovered:=true}]}::cs) (by simp [recoverD,hc0]) hact2 hx2 hp2 fun G' w' ra' hp hf=>?_
  refine wpS_cond (t:=true) ?_ ?_
  ·obtain ⟨_,hv⟩:=hf.slots t5 _ _ hg
   exact rel_v_eq (show rel G' (.v (.bool true)) (ra'.tmps.getD t5 undef) from hv)
  ·refine wpS_of_wp (wp_mono (h.out G' w' ra' hp.srel hf).wp fun e ra2 w2 ⟨he,a3,s3,G3,q,hr,hf3,hp3⟩=>?_)
   obtain ⟨rfl,hsub⟩:=q.out
   cases e<;>first|exact hr.elim|skip
   obtain ⟨s4,q1,q2⟩:=hsub
   refine ⟨hf3.defers.trans (hp3.ext.le.df.trans hp.ext.le.df),_,rfl,.tuple #[],by rw [results_eq,hres];simp,⟨_,rfl⟩,⟨_,rfl⟩,G3.on G.df,?_⟩
   have hpp:Post s (G.on []) w s3 G3 w2:=hp.trans hs1 hp3
   refine (hpp.sub ?_ fun x hx=>(q1.mem_iff.1 (q2.subset hx))).on
   exact List.Nodup.sublist (q2.map _) ((q1.map _).nodup_iff.2 hpp.srel.keys)⟩
end
end
end Go.Proofs.Hk

namespace Go.Proofs.Hk
noncomputable section
open Go
theorem DPan.frame {c:Cx} {g:FuncId} {xs:List HV} {v:HV} {S s s' t:HS} (h:DPan c g xs v s s') (p:HTake S s t):DPan c g xs v S (s' ++ t):=
 ⟨fun G w vs u hs hargs hu=>by
  have hs1:=hs.permd p.perm.symm
  exact (h.out G w vs u (hs1.perm (List.sublist_append_left s t)) hargs hu).mono fun e u' w' ⟨h1,h2,G',h3⟩=>⟨h1,h2,G',(Post.frame hs1 h3).permL p.perm⟩⟩
theorem DRet.frame {c:Cx} {g:FuncId} {xs:List HV} {S s s' t:HS} (h:DRet c g xs s s') (p:HTake S s t):DRet c g xs S (s' ++ t):=
 ⟨fun G w vs hs hargs=>by
  have hs1:=hs.permd p.perm.symm
  exact (h.out G w vs (hs1.perm (List.sublist_append_left s t)) hargs).mono fun e u' w' ⟨h1,h2,G',h3⟩=>⟨h1,h2,G',(Post.frame hs1 h3).permL p.perm⟩⟩
end
end Go.Proofs.Hk

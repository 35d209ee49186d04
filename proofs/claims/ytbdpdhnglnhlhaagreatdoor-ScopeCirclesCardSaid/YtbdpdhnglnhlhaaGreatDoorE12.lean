import Derived.Test.YtbdpdhnglnhlhaaGreatDoorE8
import Derived.Calls
import Derived.Test.YtbdpdhnglnhlhaaGreatDoorH0
import Derived.Test.YtbdpdhnglnhlhaaGreatDoorM2
import Derived.Test.YtbdpdhnglnhlhaaGreatDoorH15
import Derived.ProofKit
import Derived.Below
import Derived.ChangeSame
import Derived.Carry
set_option linter.unusedSimpArgs false
set_option linter.unusedVariables false
set_option linter.unusedVariables false
set_option linter.unusedSimpArgs false
namespace Go.Proofs.Hk
open Go
/-! The machine as it is reckoned is sound. -/
theorem dropN_sub (k0:Nat):∀ s:HS,(dropN k0 s).Sublist s
 |[]=>.slnil
 |e::s=>by
  simp only [dropN_cons]
  split
  ·exact (dropN_sub k0 s).cons_cons _
  ·exact (dropN_sub k0 s).cons _
theorem gc_sub (k0 k1:Nat) (x:HV) (s:HS):(gc k0 k1 x s).Sublist s:=by
 unfold gc
 split
 ·exact .refl _
 ·exact dropN_sub _ _
/-- Contracts that are known. -/
def LibOk (c:Cx) (lib:FuncId→List HV→Option LibR):Prop:=
 ∀ f xs,(∀ x,lib f xs=some (.val x)→HCalls c.P f xs [] fun e st=>e = .ret x∧st=[])∧
  (∀ X Y,lib f xs=some (.new X Y)→∀ r,HCalls c.P f xs [(r,.void)] fun e st=>e = .ret (X r)∧st=[(r,Y r)])∧
  (∀ r k,lib f xs=some (.look r k)→∀ y x,k y=some x→HCalls c.P f xs [(r,y)] fun e st=>e = .ret x∧st=[(r,y)])∧
  (∀ r k,lib f xs=some (.turn r k)→∀ y z,k y=some z→HCalls c.P f xs [(r,y)] fun e st=>e = .ret (.tup [])∧st=[(r,z)])∧
  (∀ g,lib f xs=some (.st g)→∀ s x s',g s=some (x,s')→HCalls c.P f xs s fun e st=>e = .ret x∧st=s')
theorem HCalls.more {P:Program} {f:FuncId} {xs:List HV} {s s':HS} {e:HEnd} (h:HCalls P f xs s fun e' st=>e'=e∧st=s') (t:HS):HCalls P f xs (s ++ t) fun e' st=>e'=e∧st=s' ++ t:=
 (h.frame t).mono fun _ _ ⟨s1,e1,e2,e3⟩=>⟨e2,by rw [e1,e3]⟩
theorem HCalls.lessS {P:Program} {f:FuncId} {xs:List HV} {s s' s2:HS} {e:HEnd} (h:HCalls P f xs s fun e' st=>e'=e∧st=s') (p:Subp s2 s'):HCalls P f xs s fun e' st=>e'=e∧st=s2:=
 h.weaken fun e' s1 ⟨e1,e2⟩=>⟨e,s2,by subst e1;exact WeakerE.refl _,e2 ▸ p,rfl,rfl⟩
theorem HCalls.permE {P:Program} {f:FuncId} {xs:List HV} {s s' s2:HS} {e:HEnd} (h:HCalls P f xs s fun e' st=>e'=e∧st=s') (p:s'.Perm s2):HCalls P f xs s fun e' st=>e'=e∧st=s2:=
 h.lessS ⟨s2,p.symm,.refl _⟩
theorem evBody_ok {c:Cx} {rec:Task→HS→Nat→Nat→Nat→Rs} (hrec:CodeOk c rec) {K d:Nat} {f:FuncId} {fn:Func} (hf:c.P.funcs[f]? = some fn) {code:Code} (hb:fn.body=some code) {xs:List HV} (hn:Nat.ble xs.length fn.ntmps=true) (s:HS) (k:Nat) (hk:k≤K) (b:Bool) :
  EndOk c K f xs s k (evBody c rec K d fn xs s k code b):=by
 cases b with
 |true=>
  cases hng:noRng code with
  |false=>exact ⟨fun _ _ _ h=>by (simp only [evBody,hng] at h;cases h),fun _ _ _ h=>by (simp only [evBody,hng] at h;cases h)⟩
  |true=>
  have h:=evDefer_ok (d:=d) (fn:=fn) hrec code (initFr xs 0) s k hng hk
  simp only [evBody,hng]
  refine ⟨fun x s' k' e=>?_,fun x s' k' e=>?_⟩
  ·obtain ⟨h1,h2,h3⟩:=h.1 x s' k' e
   exact ⟨h1,h2,sem_callsD c hf hb hn rfl h3⟩
  ·obtain ⟨h1,h2,h3⟩:=h.2 x s' k' e
   exact ⟨h1,h2,sem_callsD c hf hb hn rfl h3⟩
 |false=>
  refine ⟨fun x s' k' h=>?_,fun x s' k' h=>?_⟩
  ·have h:evAhead c fn (fun a s k=>evFin c fn a s k) (rec (.code fn.ntmps code (initFr xs 0)) s k K d) = .ret x s' k':=h
   cases hr:rec (.code fn.ntmps code (initFr xs 0)) s k K d with
   |out _ _=>rw [hr] at h;cases h
   |ret _ _ _=>rw [hr] at h;cases h
   |pan _ _ _=>rw [hr] at h;cases h
   |ok e a1 s1 k1=>
    rw [hr] at h
    obtain ⟨q1,q2,q3⟩:=hrec _ _ _ _ _ _ _ _ _ _ _ hr hk
    cases e with
    |exit j=>cases h
    |pan v=>cases h
    |normal=>
     have h:evFin c fn a1 s1 k1 = .ret x s' k':=h
     obtain ⟨e1,e2,_⟩:=evFin_ret h
     subst e1 e2
     have hq:=evFin_resQ (t:=V k' K) h (fun e st=>e = .ret x∧st=s' ++ V k' K) ⟨rfl,rfl⟩
     exact ⟨q1,q2,sem_callsM c hf hb hn rfl (q3 _ ⟨hq⟩).2⟩
    |ret=>
     have h:evFin c fn a1 s1 k1 = .ret x s' k':=h
     obtain ⟨e1,e2,_⟩:=evFin_ret h
     subst e1 e2
     have hq:=evFin_resQ (t:=V k' K) h (fun e st=>e = .ret x∧st=s' ++ V k' K) ⟨rfl,rfl⟩
     exact ⟨q1,q2,sem_callsM c hf hb hn rfl (q3 _ ⟨hq⟩).2⟩
  ·have h:evAhead c fn (fun a s k=>evFin c fn a s k) (rec (.code fn.ntmps code (initFr xs 0)) s k K d) = .pan x s' k':=h
   cases hr:rec (.code fn.ntmps code (initFr xs 0)) s k K d with
   |out _ _=>rw [hr] at h;cases h
   |ret _ _ _=>rw [hr] at h;cases h
   |pan _ _ _=>rw [hr] at h;cases h
   |ok e a1 s1 k1=>
    rw [hr] at h
    obtain ⟨q1,q2,q3⟩:=hrec _ _ _ _ _ _ _ _ _ _ _ hr hk
    cases e with
    |exit j=>cases h
    |pan v=>
     have h:Rs.pan v s1 k1 = .pan x s' k':=h
     injection h with e1 e2 e3
     subst e1 e2 e3
     exact ⟨q1,q2,sem_callsM c hf hb hn rfl (q3 _ ⟨⟨rfl,rfl⟩⟩).2⟩
    |normal=>exact (evFin_pan (show evFin c fn a1 s1 k1 = .pan x s' k' from h)).elim
    |ret=>exact (evFin_pan (show evFin c fn a1 s1 k1 = .pan x s' k' from h)).elim
theorem evCall_ok {c:Cx} {rec:Task→HS→Nat→Nat→Nat→Rs} (hrec:CodeOk c rec) {lib:FuncId→List HV→Option LibR} (hlib:LibOk c lib) (K d:Nat):CallOk c K (fun f xs s k=>evCall c rec K d lib f xs s k):=by
 intro f xs s k hk
 have key:EndOk c K f xs s k (evCall c rec K d lib f xs s k):=by
  unfold evCall
  cases hl:lib f xs with
  |some r=>
   cases r with
   |val x=>
    refine ⟨fun y s' k' h=>?_,fun y s' k' h=>by cases h⟩
    have h:Rs.ret x s k = .ret y s' k':=h
    injection h with e1 e2 e3
    subst e1 e2 e3
    exact ⟨Nat.le_refl _,hk,((hlib f xs).1 x hl).more _⟩
   |new X Y=>
    simp only
    cases hb:Nat.blt k K with
    |false=>exact ⟨fun _ _ _ h=>(by cases h),fun _ _ _ h=>(by cases h)⟩
    |true=>
     have hlt:=blt_iff.1 hb
     simp only [forceN_eq]
     refine ⟨fun y s' k' h=>?_,fun y s' k' h=>by cases h⟩
     injection h with e1 e2 e3
     subst e1 e2 e3
     refine ⟨by omega,hlt,?_⟩
     rw [V_cons hlt]
     have:=((hlib f xs).2.1 X Y hl k).more (s ++ V (k+1) K)
     exact HCalls.perm List.perm_middle.symm this
   |look r q=>
    refine ⟨fun z s' k' h=>?_,fun z s' k' h=>?_⟩<;>simp only at h<;>split at h<;>(first|(cases h;done)|skip)<;>rename_i y hy<;>split at h<;>(first|(cases h;done)|skip)
    rename_i x hx
    injection h with e1 e2 e3
    subst e1 e2 e3
    refine ⟨Nat.le_refl _,hk,?_⟩
    have:=((hlib f xs).2.2.1 r q hl y x hx).more (serase s r ++ V k K)
    have p:([(r,y)] ++ (serase s r ++ V k K)).Perm (s ++ V k K):=(List.Perm.append_right _ (serase_perm hy).symm)
    exact (HCalls.perm p this).permE p
   |turn r q=>
    cases hy:sget s r with
    |none=>exact ⟨fun _ _ _ h=>by (simp only [hy] at h;cases h),fun _ _ _ h=>by (simp only [hy] at h;cases h)⟩
    |some y=>
     cases hx:q y with
     |none=>exact ⟨fun _ _ _ h=>by (simp only [hy,hx] at h;cases h),fun _ _ _ h=>by (simp only [hy,hx] at h;cases h)⟩
     |some x=>
      refine ⟨fun z s' k' h=>?_,fun z s' k' h=>by (simp only [hy,hx,forceL_eq] at h;cases h)⟩
      simp only [hy,hx,forceL_eq] at h
      injection h with e1 e2 e3
      subst e1 e2 e3
      refine ⟨Nat.le_refl _,hk,?_⟩
      have:=((hlib f xs).2.2.2.1 r q hl y x hx).more (serase s r ++ V k K)
      have p:([(r,y)] ++ (serase s r ++ V k K)).Perm (s ++ V k K):=(List.Perm.append_right _ (serase_perm hy).symm)
      have p2:([(r,x)] ++ (serase s r ++ V k K)).Perm (sset s r x ++ V k K):=(List.Perm.append_right _ (sset_perm hy).symm)
      exact (HCalls.perm p this).permE p2
   |st g=>
    cases hg:g s with
    |none=>exact ⟨fun _ _ _ h=>by (simp only [hg] at h;cases h),fun _ _ _ h=>by (simp only [hg] at h;cases h)⟩
    |some p=>
     obtain ⟨x,s1⟩:=p
     refine ⟨fun z s' k' h=>?_,fun z s' k' h=>by (simp only [hg,forceL_eq] at h;cases h)⟩
     simp only [hg,forceL_eq] at h
     injection h with e1 e2 e3
     subst e1 e2 e3
     exact ⟨Nat.le_refl _,hk,((hlib f xs).2.2.2.2 g hl s x s1 hg).more _⟩
  |none=>
   simp only
   cases hf:c.func f with
   |none=>exact ⟨fun _ _ _ h=>(by cases h),fun _ _ _ h=>(by cases h)⟩
   |some fn=>
    simp only [evFn]
    cases hb:fn.body with
    |none=>exact ⟨fun _ _ _ h=>(by cases h),fun _ _ _ h=>(by cases h)⟩
    |some code=>
     simp only
     cases hn:Nat.ble xs.length fn.ntmps with
     |false=>exact ⟨fun _ _ _ h=>(by cases h),fun _ _ _ h=>(by cases h)⟩
     |true=>
      simp only
      have hB:=evBody_ok (d:=d) hrec (c.func_ok _ _ hf) hb hn s k hk (hasDefer code)
      refine ⟨fun y s' k' h=>?_,fun y s' k' h=>?_⟩
      ·cases hr:evBody c rec K d fn xs s k code (hasDefer code) with
       |out _ _=>rw [hr] at h;cases h
       |ok _ _ _ _=>rw [hr] at h;cases h
       |pan _ _ _=>rw [hr] at h;cases h
       |ret x1 s1 k1=>
        rw [hr] at h
        simp only [evRet,forceL_eq] at h
        injection h with e1 e2 e3
        subst e1 e2 e3
        obtain ⟨h1,h2,h3⟩:=hB.1 _ _ _ hr
        exact ⟨h1,h2,h3.lessS (Sb.app (.of_sublist (gc_sub _ _ _ _)) (.refl _)).subp⟩
      ·cases hr:evBody c rec K d fn xs s k code (hasDefer code) with
       |out _ _=>rw [hr] at h;cases h
       |ok _ _ _ _=>rw [hr] at h;cases h
       |ret _ _ _=>rw [hr] at h;simp only [evRet,forceL_eq] at h;cases h
       |pan x1 s1 k1=>
        rw [hr] at h
        have h:Rs.pan x1 s1 k1 = .pan y s' k':=h
        injection h with e1 e2 e3
        subst e1 e2 e3
        exact hB.2 _ _ _ hr
 exact key
/-! What has no name is told of whatever memory. -/
mutual
theorem nameless_rel {G H:Ghost} (hG:∀ b o v,G.K b o=some v→H.K b o=some v):∀ (x:HV) (cs:List Value),nameless x=true→relC G x cs→relC H x cs
 |.v x,cs,_,h=>by simpa only [relC] using h
 |.agg l,cs,hn,h=>by simp only [relC] at h ⊢;exact nameless_rels hG l cs hn h
 |.tup l,cs,hn,h=>by
  simp only [relC] at h ⊢
  obtain ⟨us,e,h⟩:=h
  exact ⟨us,e,nameless_relVs hG l _ hn h⟩
 |.list t sz l,cs,hn,h=>by
  simp only [relC] at h ⊢
  have hl:namelessL l=true∧(t = .no∨t = .full):=by
   cases t with
   |no=>exact ⟨hn,.inl rfl⟩
   |full=>exact ⟨hn,.inr rfl⟩
   |own i st=>cases hn
  rcases h with ⟨e,e',h⟩|⟨b,o,c,e,hc,h,ht⟩|h
  ·refine .inl ⟨e,e',?_⟩
   rcases hl.2 with rfl|rfl<;>exact h
  ·refine .inr (.inl ⟨b,o,c,e,hc,nameless_relAts hG l _ _ (hG b) _ _ hl.1 h,?_⟩)
   rcases hl.2 with rfl|rfl<;>exact ht
  ·exact .inr (.inr h)
 |.ptr r off,cs,hn,h=>by cases hn
 |.cptr x,cs,hn,h=>by
  simp only [relC] at h ⊢
  obtain ⟨b,o,xs,e,hk,hx,h⟩:=h
  refine ⟨b,o,xs,e,hk,fun j hj=>?_,nameless_rel hG x xs hn h⟩
  have:=hx j hj
  rw [List.getElem?_eq_getElem hj] at this ⊢
  exact hG _ _ _ this
 |.fn f fi ca,cs,hn,h=>by
  simp only [relC] at h ⊢
  obtain ⟨a,b,e,h1,h2⟩:=h
  have hn:(match namelessL fi with|true=>namelessL ca|false=>false)=true:=hn
  cases hfi:namelessL fi with
  |false=>rw [hfi] at hn;cases hn
  |true=>
   rw [hfi] at hn
   exact ⟨a,b,e,nameless_relVs hG fi _ hfi h1,nameless_relVs hG ca _ hn h2⟩
 |.map r,cs,hn,h=>by cases hn
 |.arr r off len cap sz,cs,hn,h=>by cases hn
 |.iface t x,cs,hn,h=>by
  simp only [relC] at h ⊢
  obtain ⟨u,e,ha,h⟩:=h
  exact ⟨u,e,ha,nameless_rel hG x _ hn h⟩
theorem nameless_rels {G H:Ghost} (hG:∀ b o v,G.K b o=some v→H.K b o=some v):∀ (l:List HV) (cs:List Value),namelessL l=true→relCs G l cs→relCs H l cs
 |[],cs,_,h=>by simpa only [relCs] using h
 |x::xs,cs,hn,h=>by
  simp only [relCs] at h ⊢
  obtain ⟨u,us,e,⟨h0,h1⟩,h2⟩:=h
  have hn:(match nameless x with|true=>namelessL xs|false=>false)=true:=hn
  cases hx:nameless x with
  |false=>rw [hx] at hn;cases hn
  |true=>
   rw [hx] at hn
   exact ⟨u,us,e,⟨h0,nameless_rel hG x _ hx h1⟩,nameless_rels hG xs _ hn h2⟩
theorem nameless_relVs {G H:Ghost} (hG:∀ b o v,G.K b o=some v→H.K b o=some v):∀ (l:List HV) (us:List Value),namelessL l=true→relVs G l us→relVs H l us
 |[],us,_,h=>by simpa only [relVs] using h
 |x::xs,us,hn,h=>by
  simp only [relVs] at h ⊢
  obtain ⟨u,us',e,⟨h0,h1⟩,h2⟩:=h
  have hn:(match nameless x with|true=>namelessL xs|false=>false)=true:=hn
  cases hx:nameless x with
  |false=>rw [hx] at hn;cases hn
  |true=>
   rw [hx] at hn
   exact ⟨u,us',e,⟨h0,nameless_rel hG x _ hx h1⟩,nameless_relVs hG xs _ hn h2⟩
theorem nameless_relAts {G H:Ghost} (hG:∀ b o v,G.K b o=some v→H.K b o=some v):∀ (l:List HV) (rd rd':Nat→Option Value) (_:∀ o v,rd o=some v→rd' o=some v) (o sz:Nat),namelessL l=true→relAts G l rd o sz→relAts H l rd' o sz
 |[],_,_,_,_,_,_,_=>by simp only [relAts]
 |x::xs,rd,rd',hr,o,sz,hn,h=>by
  simp only [relAts] at h ⊢
  obtain ⟨⟨cs,hs,hk,hx,h1⟩,h2⟩:=h
  have hn:(match nameless x with|true=>namelessL xs|false=>false)=true:=hn
  cases hx':nameless x with
  |false=>rw [hx'] at hn;cases hn
  |true=>
   rw [hx'] at hn
   refine ⟨⟨cs,hs,hk,fun j hj=>?_,nameless_rel hG x _ hx' h1⟩,nameless_relAts hG xs rd rd' hr _ _ hn h2⟩
   have:=hx j hj
   rw [List.getElem?_eq_getElem (by omega)] at this ⊢
   exact hr _ _ this
end
/-- A ghost that knows frozen cells alone. -/
def Ghost.bare (G:Ghost) (K:Nat):Ghost:={ K:=G.K,om:=fun _=>none,top:=fun _=>none,role:=fun _=>none,lim:=K,df:=G.df}
theorem closed_calls {c:Cx} {f:FuncId} {xs:List HV} {x:HV} {s0:HS} {j K:Nat} (h:HCalls c.P f xs ([] ++ V 0 K) fun e st=>e = .ret x∧st=s0 ++ V j K) (hxs:namelessL xs=true) (hx:nameless (strip x)=true):Pur c f xs (strip x):=by
 refine ⟨⟨fun G w vs hs hargs=>?_⟩⟩
 have hV:SRel (G.bare K) ([] ++ V 0 K) w:=by
  refine ⟨hs.kw,?_,fun r y hy=>?_,fun r hr=>⟨rfl,rfl⟩,fun b r e=>by cases e⟩
  ·simp only [List.nil_append,keys,V,List.map_map]
   have:((fun x=>x.1) ∘ fun r=>(r,Res.void))=(id:Nat→Nat):=rfl
   rw [this,List.map_id]
   exact List.nodup_range'
  ·simp only [List.nil_append,V,List.mem_map] at hy
   obtain ⟨q,hq,e⟩:=hy
   cases e
   have:=List.mem_range'_1.1 hq
   exact ⟨by show r < K;omega,rfl,rfl,fun b=>by simp [Ghost.bare]⟩
 refine (h.out (G.bare K) w vs hV (nameless_relVs (G:=G) (H:=G.bare K) (fun b o v e=>e) xs _ hxs hargs)).mono fun e w' ⟨he,s',G',⟨e1,e2⟩,hrel,hp⟩=>?_
 subst e1 e2
 have hrel:endRel G' (.ret x) e:=hrel
 cases e<;>first|exact hrel.elim|skip
 rename_i u
 have hKK:∀ b o v,G.K b o=some v→G'.K b o=some v:=fun b o v e=>hp.ext.le.K b o v e
 refine ⟨.ret (strip x),[],{ G with K:=G'.K},⟨rfl,rfl⟩,⟨by rw [strip_kd];exact hrel.1,nameless_rel (G:=G') (H:={ G with K:=G'.K}) (fun b o v e=>e) (strip x) _ hx (strip_rel x _ hrel.2)⟩,?_⟩
 refine ⟨⟨hp.srel.kw,by simp [keys],fun r y hy=>(by cases hy),hs.fresh,fun b r e=>⟨Nat.lt_of_lt_of_le (hs.role b r e).1 hp.ext.size,(hs.role b r e).2⟩⟩,
  ⟨⟨hKK,fun _ _ e=>e,fun _ t e=>⟨t,e,Nat.le_refl _,fun _=>rfl⟩,rfl⟩,hp.ext.size,fun b hb _=>?_,fun _ _ e _=>e,Nat.le_refl _,hp.ext.os,hp.ext.tape,hp.ext.output,fun _ _ _ h1 h2 h3=>⟨h1,h2,h3⟩⟩,fun r hr=>by cases hr⟩
 obtain ⟨h1,_,h3⟩:=hp.ext.blocks b hb (fun r e=>by cases e)
 exact ⟨h1,rfl,h3⟩
theorem run_succ (c:Cx) (lib:FuncId→List HV→Option LibR) (m:Nat) (t:Task) (s:HS) (k K d:Nat):run c lib (m+1) t s k K d=evStep c lib (run c lib m) t s k K d:=rfl
theorem run_ok (c:Cx) (lib:FuncId→List HV→Option LibR) (hlib:LibOk c lib):∀ m,RecOk c (run c lib m):=by
 intro m
 induction m using Nat.strongRecOn with
 |_ m ih=>
 cases m with
 |zero=>exact ⟨fun n code a s k K d e a' s' k' h=>(by cases h),fun K d f xs s k hk=>⟨fun x s' k' h=>(by cases h),fun x s' k' h=>(by cases h)⟩⟩
 |succ m=>
 obtain ⟨hC,hF⟩:=ih m (Nat.lt_succ_self m)
 refine ⟨fun n code a s k K d e a' s' k' h hk=>?_,fun K d=>?_⟩
 rotate_left
 ·exact evCall_ok hC hlib K d
 cases code with
 |skip=>
  have h:Rs.ok .normal a s k = .ok e a' s' k':=h
  injection h with e1 e2 e3 e4
  subst e1 e2 e3 e4
  exact ⟨Nat.le_refl _,hk,fun Q q=>.of (sem_skip q)⟩
 |label l=>
  have h:Rs.ok .normal a s k = .ok e a' s' k':=h
  injection h with e1 e2 e3 e4
  subst e1 e2 e3 e4
  exact ⟨Nat.le_refl _,hk,fun Q q=>.of (sem_label q)⟩
 |exit id=>
  have h:Rs.ok (.exit id) a s k = .ok e a' s' k':=h
  injection h with e1 e2 e3 e4
  subst e1 e2 e3 e4
  exact ⟨Nat.le_refl _,hk,fun Q q=>.of (sem_exit q)⟩
 |ret=>
  have h:Rs.ok .ret a s k = .ok e a' s' k':=h
  injection h with e1 e2 e3 e4
  subst e1 e2 e3 e4
  exact ⟨Nat.le_refl _,hk,fun Q q=>.of (sem_ret q)⟩
 |goto l=>cases h
 |refuse w=>cases h
 |rangeFunc f ps x y=>
  have h:evRange c (run c lib m) K d n ps x y a s k (cev a f) = .ok e a' s' k':=h
  unfold evRange at h
  split at h
  ·rename_i g fi ca hf
   rw [←cev_eq] at hf
   cases hb:c.fn g && Nat.blt k K with
   |false=>rw [hb] at h;cases h
   |true=>
    rw [hb] at h
    simp only [Bool.and_eq_true] at hb
    have hlt:=blt_iff.1 hb.2
    simp only [forceN_eq,forceL_eq] at h
    have hcall:=hF K d g (fi ++ .yld k::ca) ((k,.loop ⟨n,a,ps,x,y,false,none⟩)::s) (k+1) hlt
    unfold evRangeEnd at h
    split at h
    ·rename_i z s1 k1 hr
     obtain ⟨q1,q2,q3⟩:=hcall.1 _ _ _ hr
     split at h
     ·rename_i L hL
      have fin:∀ Q:HExit→Fr→HS→Prop,rangeQ k Q a L (serase s1 k ++ V k1 K)→SemM c.P n (.rangeFunc f ps x y) Q a (s ++ V k K):=fun Q hQ=>by
       rw [V_cons hlt]
       refine SemM.permd (List.perm_middle.symm:((k,Res.void)::(s ++ V (k+1) K)).Perm _) (SemM.range hf hb.1 ?_)
       have e1:fi ++ [HV.yld k] ++ ca=fi ++ .yld k::ca:=by simp
       rw [e1]
       exact q3.mono fun e st ⟨g1,g2⟩=>⟨z,L,_,g1,by rw [g2];exact (List.Perm.append_right _ (serase_perm hL)).trans (by simp),hQ⟩
      unfold evRangeFin at h
      split at h
      ·cases h
      ·rename_i hbz
       split at h<;>(first|(cases h;done)|skip)
       all_goals
        rename_i hpd
        rw [forceL_eq] at h
        injection h with e1 e2 e3 e4
        subst e1 e2 e3 e4
        exact ⟨by omega,q2,fun Q q=>⟨fun hn=>(by cases hn),fin Q ⟨hbz,by rw [hpd];exact q⟩⟩⟩
     ·cases h
    ·cases h
    ·cases h
  ·cases h
 |scope b=>
  obtain ⟨h1,h2,h3⟩:=hC _ _ _ _ _ _ _ _ _ _ _ (show run c lib m (.code n b a) s k K d = .ok e a' s' k' from h) hk
  exact ⟨h1,h2,fun Q q=>⟨fun hn=>sem_scope ((h3 Q q).1 hn),.scope (h3 Q q).2⟩⟩
 |seq x y=>
  have h:evSeq (run c lib m) K d n y (run c lib m (.code n x a) s k K d) = .ok e a' s' k':=h
  unfold evSeq at h
  split at h
  ·rename_i a1 s1 k1 hr
   obtain ⟨h1,h2,h3⟩:=hC _ _ _ _ _ _ _ _ _ _ _ hr hk
   obtain ⟨g1,g2,g3⟩:=hC _ _ _ _ _ _ _ _ _ _ _ h h2
   exact ⟨by omega,g2,fun Q q=>⟨fun hn=>.seq ((h3 _ ((g3 Q q).1 (and_r hn))).1 (and_l hn)),.seq (h3 _ (g3 Q q).2).2⟩⟩
  ·rename_i hne
   obtain ⟨h1,h2,h3⟩:=hC _ _ _ _ _ _ _ _ _ _ _ h hk
   refine ⟨h1,h2,fun Q q=>⟨fun hn=>.seq ((h3 _ ?_).1 (and_l hn)),.seq (h3 _ ?_).2⟩⟩<;>
   ·cases e with
    |normal=>exact (hne _ _ _ h).elim
    |exit i=>exact q
    |ret=>exact q
    |pan v=>exact q
 |cond t x y=>
  have h:evCond (run c lib m) K d n x y a s k (cev a t) = .ok e a' s' k':=h
  unfold evCond at h
  split at h
  ·rename_i b hb
   rw [←cev_eq] at hb
   cases b with
   |true=>
    obtain ⟨h1,h2,h3⟩:=hC _ _ _ _ _ _ _ _ _ _ _ h hk
    exact ⟨h1,h2,fun Q q=>⟨fun hn=>sem_cond hb (br_true rfl ((h3 Q q).1 (and_l hn))),.cond hb (h3 Q q).2⟩⟩
   |false=>
    obtain ⟨h1,h2,h3⟩:=hC _ _ _ _ _ _ _ _ _ _ _ h hk
    exact ⟨h1,h2,fun Q q=>⟨fun hn=>sem_cond hb (br_false rfl ((h3 Q q).1 (and_r hn))),.cond hb (h3 Q q).2⟩⟩
  ·cases h
 |block id b=>
  have h:evBlock id (run c lib m (.code n b a) s k K d) = .ok e a' s' k':=h
  unfold evBlock at h
  split at h
  ·rename_i j a1 s1 k1 hr
   obtain ⟨h1,h2,h3⟩:=hC _ _ _ _ _ _ _ _ _ _ _ hr hk
   cases hj:Nat.beq j id with
   |true=>
    rw [hj] at h
    injection h with e1 e2 e3 e4
    subst e1 e2 e3 e4
    exact ⟨h1,h2,fun Q q=>⟨fun hn=>sem_block ((h3 _ (hinBlock.here hj q)).1 hn),.block (h3 _ (hinBlock.here hj q)).2⟩⟩
   |false=>
    rw [hj] at h
    injection h with e1 e2 e3 e4
    subst e1 e2 e3 e4
    exact ⟨h1,h2,fun Q q=>⟨fun hn=>sem_block ((h3 _ (hinBlock.on hj q)).1 hn),.block (h3 _ (hinBlock.on hj q)).2⟩⟩
  ·rename_i hne
   obtain ⟨h1,h2,h3⟩:=hC _ _ _ _ _ _ _ _ _ _ _ h hk
   refine ⟨h1,h2,fun Q q=>⟨fun hn=>sem_block ((h3 _ ?_).1 hn),.block (h3 _ ?_).2⟩⟩<;>
   ·cases e with
    |normal=>exact q
    |exit i=>exact (hne _ _ _ _ h).elim
    |ret=>exact q
    |pan v=>exact q
 |region id ops draw=>
  have h:evReg c (run c lib m) K d n ops a s k draw = .ok e a' s' k':=h
  cases draw with
  |false=>
   have hcod:CodOk c K (fun n code a s k=>run c lib m (.code n code a) s k K d):=fun n code a s k e a' s' k' h hk hd=>by
    obtain ⟨h1,h2,h3⟩:=hC _ _ _ _ _ _ _ _ _ _ _ h hk
    exact ⟨h1,h2,fun Q q=>(h3 Q q).1 (noDef_noRng hd)⟩
   obtain ⟨h1,h2,h3⟩:=evOps_ok hcod (hF K d) ops.toList a s k e a' s' k' h hk
   exact ⟨h1,h2,fun Q q=>.of (h3 Q q).sem⟩
  |true=>
   have hp:PureOk c (fun f xs=>run c lib m (.call f xs) [] 0 (2 ^ (24 * d)) d):=fun f xs x s0 j hr hxs hx=>by
    obtain ⟨_,_,h3⟩:=(hF (2 ^ (24 * d)) d f xs [] 0 (Nat.zero_le _)).1 _ _ _ hr
    exact closed_calls h3 hxs hx
   obtain ⟨h1,h2,h3⟩:=evDraw_ok (fun K d=>hF K d) hp h hk
   exact ⟨h1,h2,fun Q q=>.of (h3 Q id q)⟩
 |loop b=>
  have key:∀ j,j≤m+1→∀ a0 s0 k0,run c lib j (.code n (.loop b) a0) s0 k0 K d = .ok e a' s' k'→k0≤K→k0≤k'∧k'≤K:=by
   intro j
   induction j with
   |zero=>intro _ a0 s0 k0 h;cases h
   |succ j ihj=>
    intro hj a0 s0 k0 h hk0
    have h:evLoop (run c lib j) K d n b a0 (run c lib j (.code n b a0) s0 k0 K d) = .ok e a' s' k':=h
    have hCj:=(ih j (by omega)).1
    unfold evLoop at h
    split at h
    ·rename_i a1 s1 k1 hr
     rw [forceL_eq] at h
     obtain ⟨h1,h2,_⟩:=hCj _ _ _ _ _ _ _ _ _ _ _ hr hk0
     obtain ⟨g1,g2⟩:=ihj (by omega) _ _ _ h h2
     exact ⟨by omega,g2⟩
    ·obtain ⟨h1,h2,_⟩:=hCj _ _ _ _ _ _ _ _ _ _ _ h hk0
     exact ⟨h1,h2⟩
  obtain ⟨m1,m2⟩:=key (m+1) (Nat.le_refl _) a s k h hk
  refine ⟨m1,m2,fun Q q=>⟨fun hn=>?_,?_⟩⟩
  ·refine SemWp.loop (fun j a2 s2=>j≤m+1∧∃ a0 s0 k0,a0.Sub a2∧s2=s0 ++ V k0 K∧k0≤K∧run c lib j (.code n (.loop b) a0) s0 k0 K d = .ok e a' s' k') (m+1) ⟨Nat.le_refl _,a,s,k,Sub.refl a,rfl,hk,h⟩ ?_
   rintro j a2 s2 ⟨hj,a0,s0,k0,hsub,rfl,hk0,hrun⟩
   cases j with
   |zero=>cases hrun
   |succ j=>
    have h:evLoop (run c lib j) K d n b a0 (run c lib j (.code n b a0) s0 k0 K d) = .ok e a' s' k':=hrun
    have hCj:=(ih j (by omega)).1
    refine SemWp.forget ?_ hsub
    unfold evLoop at h
    split at h
    ·rename_i a1 s1 k1 hr
     rw [forceL_eq] at h
     obtain ⟨h1,h2,h3⟩:=hCj _ _ _ _ _ _ _ _ _ _ _ hr hk0
     exact (h3 _ ⟨j,Nat.lt_succ_self j,by omega,_,s1,k1,refresh_sub _ _,rfl,h2,h⟩).1 hn
    ·rename_i hne
     obtain ⟨h1,h2,h3⟩:=hCj _ _ _ _ _ _ _ _ _ _ _ h hk0
     refine (h3 _ ?_).1 hn
     cases e with
     |normal=>exact (hne _ _ _ h).elim
     |exit i=>exact q
     |ret=>exact q
     |pan v=>exact q
  ·refine SemM.loop (fun j a2 s2=>j≤m+1∧∃ a0 s0 k0,a0.Sub a2∧s2=s0 ++ V k0 K∧k0≤K∧run c lib j (.code n (.loop b) a0) s0 k0 K d = .ok e a' s' k') (m+1) ⟨Nat.le_refl _,a,s,k,Sub.refl a,rfl,hk,h⟩ ?_
   rintro j a2 s2 ⟨hj,a0,s0,k0,hsub,rfl,hk0,hrun⟩
   cases j with
   |zero=>cases hrun
   |succ j=>
    have h:evLoop (run c lib j) K d n b a0 (run c lib j (.code n b a0) s0 k0 K d) = .ok e a' s' k':=hrun
    have hCj:=(ih j (by omega)).1
    refine SemM.forget ?_ hsub
    unfold evLoop at h
    split at h
    ·rename_i a1 s1 k1 hr
     rw [forceL_eq] at h
     obtain ⟨h1,h2,h3⟩:=hCj _ _ _ _ _ _ _ _ _ _ _ hr hk0
     exact (h3 _ ⟨j,Nat.lt_succ_self j,by omega,_,s1,k1,refresh_sub _ _,rfl,h2,h⟩).2
    ·rename_i hne
     obtain ⟨h1,h2,h3⟩:=hCj _ _ _ _ _ _ _ _ _ _ _ h hk0
     refine (h3 _ ?_).2
     cases e with
     |normal=>exact (hne _ _ _ h).elim
     |exit i=>exact q
     |ret=>exact q
     |pan v=>exact q
/-- A call without a name, reckoned. -/
def isRet (x:HV):Rs→Bool
 |.ret y s _=>true
 |_=>false
theorem run_pur {c:Cx} {lib:FuncId→List HV→Option LibR} (hlib:LibOk c lib) (m K d:Nat) {f:FuncId} {xs:List HV} {x:HV} {s:HS} {j:Nat} (h:run c lib m (.call f xs) [] 0 K d = .ret x s j) (hxs:namelessL xs=true) (hx:nameless (strip x)=true):Pur c f xs (strip x):=by
 obtain ⟨_,_,h3⟩:=((run_ok c lib hlib m).2 K d f xs [] 0 (Nat.zero_le _)).1 _ _ _ h
 exact closed_calls (j:=j) h3 hxs hx
theorem run_pan {c:Cx} {lib:FuncId→List HV→Option LibR} (hlib:LibOk c lib) (m K d:Nat) {f:FuncId} {xs:List HV} {x:HV} {s:HS} {j:Nat} (h:run c lib m (.call f xs) [] 0 K d = .pan x s j):HCalls c.P f xs ([] ++ V 0 K) fun e st=>e = .pan x∧st=s ++ V j K:=
 (((run_ok c lib hlib m).2 K d f xs [] 0 (Nat.zero_le _)).2 _ _ _ h).2.2
end Go.Proofs.Hk

namespace Go.Proofs.Hk
noncomputable section
open Go
def leafEq:Value→Value→Bool
 |.bool a,.bool b=>a == b
 |.int k a,.int k' b=>kindEq k k' && a == b
 |.string a,.string b=>a.data.toList == b.data.toList
 |.pointer none,.pointer none=>true
 |.slice none 0 0,.slice none 0 0=>true
 |.map none,.map none=>true
 |.nilFunc,.nilFunc=>true
 |.nilIface,.nilIface=>true
 |_,_=>false
theorem leafEq_eq {a b:Value} (h:leafEq a b=true):a=b:=by
 unfold leafEq at h
 split at h<;>first|rfl|(simp at h)|skip
 ·rw [h]
 ·obtain ⟨h1,h2⟩:=h;rw [kindEq_eq h1,h2]
 ·congr;exact congrArg ByteArray.mk (by simpa using h)
def leavesEq:List Value→List Value→Bool
 |[],[]=>true
 |a::l,b::m=>leafEq a b && leavesEq l m
 |_,_=>false
theorem leavesEq_eq:∀ {a b:List Value},leavesEq a b=true→a=b
 |[],[],_=>rfl
 |a::l,b::m,h=>by
  simp only [leavesEq,Bool.and_eq_true] at h
  rw [leafEq_eq h.1,leavesEq_eq h.2]
 |[],_::_,h=>by simp [leavesEq] at h
 |_::_,[],h=>by simp [leavesEq] at h
def valEq:Value→Value→Bool
 |.agg a,.agg b=>leavesEq a.toList b.toList
 |a,b=>leafEq a b
theorem valEq_eq {a b:Value} (h:valEq a b=true):a=b:=by
 unfold valEq at h
 split at h
 ·rw [Array.toList_inj.1 (leavesEq_eq h)]
 ·exact leafEq_eq h
def fieldsB (P:Program):List Field→List (Nat × Nat × Bool)→Bool
 |[],[]=>true
 |f::fs,(o,s,b)::l=>f.offset == o && (match P.info? f.type,P.underlying f.type with
  |some i,some u=>i.size == s && descAgg u == b
  |_,_=>false) && fieldsB P fs l
 |_,_=>false
theorem fieldsB_ok {P:Program} : ∀ {fs:List Field} {l:List (Nat × Nat × Bool)},fieldsB P fs l=true→fieldsOK P fs l
 |[],[],_=>rfl
 |f::fs,(o,s,b)::l,h=>by
  simp only [fieldsB,Bool.and_eq_true] at h
  obtain ⟨⟨h1,h2⟩,h3⟩:=h
  split at h2
  ·rename_i i u hi hu
   simp only [Bool.and_eq_true,beq_iff_eq] at h2
   exact ⟨o,s,b,l,rfl,by simpa using h1,⟨i,u,hi,hu,h2.1,h2.2⟩,fieldsB_ok h3⟩
  ·cases h2
 |[],_::_,h=>by simp [fieldsB] at h
 |_::_,[],h=>by simp [fieldsB] at h
def shB (P:Program):TypeDesc→Sh→Bool
 |.int k,.int k'=>kindEq k k'
 |.bool,.bool=>true
 |.string,.string=>true
 |.slice e,.slice e'=>e == e'
 |.struct fs,.struct l eq=>fieldsB P fs.toList l && (!eq||fieldsEq P fs.toList)
 |.array n e,.array n' e'=>n == n' && e == e'
 |.map k e,.map k' e'=>k == k' && e == e'
 |.pointer e,.ptr e'=>e == e'
 |.func _ _ _,.func=>true
 |.interface _,.iface=>true
 |_,.other=>true
 |_,_=>false
theorem shB_ok {P:Program} {u:TypeDesc} {d:Sh} (h:shB P u d=true):shOK P u d:=by
 unfold shB at h
 split at h
 ·exact kindEq_eq h
 ·trivial
 ·trivial
 ·exact beq_iff_eq.1 h
 ·simp only [Bool.and_eq_true,Bool.or_eq_true,Bool.not_eq_true'] at h
  refine ⟨fieldsB_ok h.1,fun e=>?_⟩
  rcases h.2 with h2|h2
  ·rw [h2] at e;cases e
  ·exact h2
 ·simp only [Bool.and_eq_true,beq_iff_eq] at h;exact h
 ·simp only [Bool.and_eq_true,beq_iff_eq] at h;exact h
 ·exact beq_iff_eq.1 h
 ·trivial
 ·trivial
 ·unfold shOK;split<;>trivial
 ·cases h
def tyB (P:Program) (t:TypeId) (d:TyD):Bool:=
 match P.info? t,P.underlying t with
 |some i,some u=>i.size == d.size && i.bytes == d.bytes && (match i.zero with
  |some z=>valEq z d.zero
  |none=>false) && descAgg u == d.isAgg && shB P u d.sh && d.zero.cells.size == d.size
 |_,_=>false
theorem tyB_ok {P:Program} {t:TypeId} {d:TyD} (h:tyB P t d=true):TyOK P t d:=by
 unfold tyB at h
 split at h
 ·rename_i i u hi hu
  simp only [Bool.and_eq_true,beq_iff_eq] at h
  obtain ⟨⟨⟨⟨⟨h1,h2⟩,h3⟩,h4⟩,h5⟩,h6⟩:=h
  split at h3
  ·rename_i z hz
   exact ⟨i,u,hi,hu,h1,h2,by rw [hz,valEq_eq h3],h4,shB_ok h5,h6⟩
  ·cases h3
 ·cases h
def tysB (P:Program):Nat→List (Option TyD)→Bool
 |_,[]=>true
 |t,none::l=>tysB P (t+1) l
 |t,some d::l=>tyB P t d && tysB P (t+1) l
theorem tysB_ok {P:Program} : ∀ {l:List (Option TyD)} {k:Nat},tysB P k l=true→∀ t d,l[t]? = some (some d)→TyOK P (k+t) d
 |[],_,_,t,d,e=>by simp at e
 |none::l,k,h,0,d,e=>by simp at e
 |none::l,k,h,t+1,d,e=>by
  have:=tysB_ok (l:=l) (k:=k+1) h t d (by simpa using e)
  rwa [show k+1+t=k+(t+1) from by omega] at this
 |some d'::l,k,h,0,d,e=>by
  simp only [tysB,Bool.and_eq_true] at h
  simp only [List.getElem?_cons_zero,Option.some.injEq] at e
  subst e
  exact tyB_ok h.1
 |some d'::l,k,h,t+1,d,e=>by
  simp only [tysB,Bool.and_eq_true] at h
  have:=tysB_ok (l:=l) (k:=k+1) h.2 t d (by simpa using e)
  rwa [show k+1+t=k+(t+1) from by omega] at this
def tyAt (l:List (Option TyD)) (t:Nat):Option TyD:=List.rec (motive:=fun _=>Nat→Option TyD) (fun _=>none) (fun d _ ih t=>Nat.rec (motive:=fun _=>Option TyD) d (fun t _=>ih t) t) l t
theorem tyAt_get:∀ {l:List (Option TyD)} {t:Nat} {d:TyD},tyAt l t=some d→l[t]? = some (some d)
 |[],_,_,h=>(by cases h)
 |x::_,0,d,h=>by have h:x=some d:=h;simp [h]
 |_::l,t+1,d,h=>by have h:tyAt l t=some d:=h;simpa using tyAt_get h
def fnB (P:Program) (f:FuncId):Bool:=
 match P.funcs[f]? with
 |some d=>!d.body.isNone && !(d.name == "runtime.NumGoroutine")
 |none=>false
def fnsB (P:Program) (mask:Nat):Nat→Bool
 |0=>true
 |k+1=>(!mask.testBit k||fnB P k) && fnsB P mask k
theorem fnsB_ok {P:Program} {mask:Nat} : ∀ {k:Nat},fnsB P mask k=true→∀ f,f < k→mask.testBit f=true→fnB P f=true
 |0,_,f,hf,_=>by omega
 |k+1,h,f,hf,hm=>by
  simp only [fnsB,Bool.and_eq_true,Bool.or_eq_true,Bool.not_eq_true'] at h
  rcases Nat.lt_or_eq_of_le (Nat.lt_succ_iff.1 hf) with hlt|rfl
  ·exact fnsB_ok h.2 f hlt hm
  ·rcases h.1 with e|e
   ·rw [e] at hm;cases hm
   ·exact e
def eqB (P:Program) (t:TypeId) (l:List (Nat × PK)):Bool:=
 !P.stoodInHeld t && !P.eqGuardType P.depth t && (match P.underlying t with
  |some (.struct fs)=>eqFsB P fs.toList l
  |_=>false)
theorem eqB_ok {P:Program} {t:TypeId} {l:List (Nat × PK)} (h:eqB P t l=true):EqOK P t l:=by
 unfold eqB at h
 simp only [Bool.and_eq_true,Bool.not_eq_true'] at h
 obtain ⟨⟨h1,h2⟩,h3⟩:=h
 split at h3
 ·rename_i fs hfs;exact ⟨h1,h2,fs,hfs,h3⟩
 ·cases h3
def eqsB (P:Program):List (Nat × List (Nat × PK))→Bool
 |[]=>true
 |(t,l)::r=>eqB P t l && eqsB P r
def eqAt:List (Nat × List (Nat × PK))→Nat→Option (List (Nat × PK))
 |[],_=>none
 |(u,l)::r,t=>match Nat.beq u t with
  |true=>some l
  |false=>eqAt r t
theorem eqsB_ok {P:Program} : ∀ {r:List (Nat × List (Nat × PK))},eqsB P r=true→∀ t l,eqAt r t=some l→EqOK P t l
 |[],_,t,l,e=>by simp [eqAt] at e
 |(u,l')::r,h,t,l,e=>by
  simp only [eqsB,Bool.and_eq_true] at h
  simp only [eqAt] at e
  split at e
  ·rename_i hu
   have:=Nat.eq_of_beq_eq_true hu
   subst this
   cases e
   exact eqB_ok h.1
  ·exact eqsB_ok h.2 t l e
/-! Tables as trees. -/
inductive FT where
 |leaf
 |node (k:Nat) (f:Func) (l r:FT)
def FT.get (t:FT):Nat→Option Func:=FT.rec (motive:=fun _=>Nat→Option Func) (fun _=>none) (fun k f _ _ l r i=>Bool.rec (Bool.rec (r i) (l i) (Nat.ble i k)) (some f) (Nat.beq i k)) t
def FT.ok (P:Program):FT→Prop
 |.leaf=>True
 |.node k f l r=>P.funcs[k]? = some f∧l.ok P∧r.ok P
theorem FT.get_ok {P:Program} : ∀ {t:FT},t.ok P→∀ i d,t.get i=some d→P.funcs[i]? = some d
 |.leaf,_,i,d,h=>by cases h
 |.node k f l r,⟨h1,h2,h3⟩,i,d,h=>by
  have h:(Bool.rec (Bool.rec (r.get i) (l.get i) (Nat.ble i k)) (some f) (Nat.beq i k):Option Func)=some d:=h
  cases hb:Nat.beq i k with
  |true=>
   rw [hb] at h
   have h:some f=some d:=h
   cases h
   rw [Nat.eq_of_beq_eq_true hb];exact h1
  |false=>
   rw [hb] at h
   have h:(Bool.rec (r.get i) (l.get i) (Nat.ble i k):Option Func)=some d:=h
   cases hc:Nat.ble i k with
   |true=>rw [hc] at h;exact FT.get_ok h2 i d h
   |false=>rw [hc] at h;exact FT.get_ok h3 i d h
inductive TT where
 |leaf
 |node (k:Nat) (d:TyD) (l r:TT)
def TT.get (t:TT):Nat→Option TyD:=TT.rec (motive:=fun _=>Nat→Option TyD) (fun _=>none) (fun k d _ _ l r i=>Bool.rec (Bool.rec (r i) (l i) (Nat.ble i k)) (some d) (Nat.beq i k)) t
def ttB (P:Program):TT→Bool
 |.leaf=>true
 |.node k d l r=>tyB P k d && (ttB P l && ttB P r)
theorem TT.get_ok {P:Program} : ∀ {t:TT},ttB P t=true→∀ i d,t.get i=some d→TyOK P i d
 |.leaf,_,i,d,h=>by cases h
 |.node k f l r,hh,i,d,h=>by
  simp only [ttB,Bool.and_eq_true] at hh
  obtain ⟨h1,h2,h3⟩:=hh
  have h:(Bool.rec (Bool.rec (r.get i) (l.get i) (Nat.ble i k)) (some f) (Nat.beq i k):Option TyD)=some d:=h
  cases hb:Nat.beq i k with
  |true=>
   rw [hb] at h
   have h:some f=some d:=h
   cases h
   rw [Nat.eq_of_beq_eq_true hb];exact tyB_ok h1
  |false=>
   rw [hb] at h
   have h:(Bool.rec (r.get i) (l.get i) (Nat.ble i k):Option TyD)=some d:=h
   cases hc:Nat.ble i k with
   |true=>rw [hc] at h;exact TT.get_ok h2 i d h
   |false=>rw [hc] at h;exact TT.get_ok h3 i d h
/-- The functions that may be called are told by the table, too. -/
def FT.has:FT→Nat→Bool
 |.leaf,_=>false
 |.node k _ l r,i=>Nat.beq i k||(l.has i||r.has i)
/-- The context out of what is computed. -/
def mkCx (P:Program) (tys:TT) (mask k:Nat) (es:List (Nat × List (Nat × PK))) (ht:ttB P tys=true) (hf:fnsB P mask k=true) (ho:P.follows .mixedOrders=true) (he:eqsB P es=true) (ft:FT) (hft:ft.ok P):Cx where
 P:=P
 ty:=tys.get
 fn:=fun f=>Nat.blt f k && mask.testBit f
 ty_ok:=fun t d h=>TT.get_ok ht t d h
 fn_ok:=fun f h=>by
  simp only [Bool.and_eq_true,Nat.blt_eq] at h
  have:=fnsB_ok hf f h.1 h.2
  unfold fnB at this
  split at this
  ·rename_i d hd
   simp only [Bool.and_eq_true,Bool.not_eq_true'] at this
   exact ⟨d,hd,this.1,this.2⟩
  ·cases this
 orders:=ho
 eqs:=eqAt es
 eq_ok:=eqsB_ok he
 func:=ft.get
 func_ok:=FT.get_ok hft
end
end Go.Proofs.Hk

set_option linter.unusedVariables false
set_option linter.unusedSimpArgs false
namespace Go.Proofs.Hk
open Go
/-! A row that is given up. -/
theorem post_lost {q:Nat} {x:Res} {s0:HS} {G:Ghost} {w w':World} {b:Nat} (h:SRel G ((q,x)::s0) w) (ro:G.role b=some q) (hK:∀ o,G.K b o=none)
  (hh:∀ b',b'≠b→w'.heap[b']? = w.heap[b']?) (hsz:w'.heap.size=w.heap.size) (hos:w'.os=w.os) (htape:w'.tape=w.tape) (hout:w'.output=w.output):Post ((q,x)::s0) G w s0 G w':=by
 have hnd:=h.keys
 simp only [keys,List.map_cons,List.nodup_cons] at hnd
 obtain ⟨n1,n2⟩:=hnd
 have nb:∀ b' r,G.role b'=some r→r∈keys s0→b'≠b:=fun b' r e hr hb=>by
  subst hb
  rw [ro] at e
  cases e
  exact n1 hr
 refine ⟨⟨fun b' o u e=>?_,n2,fun r y hy=>?_,h.fresh,fun b' r e=>?_⟩,⟨.refl G,by omega,fun b' hb hr=>?_,fun _ _ e _=>e,Nat.le_refl _,hos,htape,hout,fun _ _ _ h1 h2 h3=>⟨h1,h2,h3⟩⟩,fun r hr=>.inl (by simp only [keys,List.map_cons];exact List.mem_cons_of_mem _ hr)⟩
 ·have hne:b'≠b:=fun hb=>by rw [hb,hK] at e;cases e
  have:=h.kw b' o u e
  simp only [World.cell?,hh b' hne] at this ⊢
  exact this
 ·have hr:r∈keys s0:=List.mem_map.2 ⟨_,hy,rfl⟩
  exact (h.holds r y (List.mem_cons_of_mem _ hy)).moveAll (Ghost.Le.refl G).to0 (fun b' e=>⟨hh b' (nb b' r e hr),e,fun _=>rfl⟩) rfl fun h1 h2 h3=>⟨h3,h1,h2⟩
 ·obtain ⟨h1,h2⟩:=h.role b' r e
  exact ⟨by omega,h2⟩
 ·have hne:b'≠b:=fun e=>by
   subst e
   exact hr q ro (by simp [keys])
  exact ⟨hh b' hne,rfl,fun _=>rfl⟩
theorem freeze_other (w:World) (a:Addr) (n:Nat) {b:Nat} (h:b≠a.block):(w.freeze a n).heap[b]? = w.heap[b]?:=by
 unfold World.freeze
 split
 ·rfl
 ·simp only [Array.getElem?_modify]
  rw [if_neg (fun e=>h e.symm)]
theorem freeze_size (w:World) (a:Addr) (n:Nat):(w.freeze a n).heap.size=w.heap.size:=by
 unfold World.freeze
 split<;>simp
theorem freeze_rest (w:World) (a:Addr) (n:Nat):(w.freeze a n).os=w.os∧(w.freeze a n).tape=w.tape∧(w.freeze a n).output=w.output:=by
 unfold World.freeze
 split<;>exact ⟨rfl,rfl,rfl⟩
theorem relCs2 {G:Ghost} {x y:HV} {vs:Array Value} (h:relCs G [x,y] vs.toList):∃ u v,vs = #[u,v]∧rel G x u∧rel G y v:=by
 simp only [relCs] at h
 obtain ⟨u,us,e1,⟨k1,h1⟩,v,us',e2,⟨k2,h2⟩,e3⟩:=h
 subst e3 e2
 exact ⟨u,v,by rw [←Array.toArray_toList (xs:=vs),e1],rel_leaf h1 k1,rel_leaf h2 k2⟩
theorem setCell_row {w:World} {b:Nat} {cur:Array Value} {t:TypeId} (h:w.heap[b]? = some (.cells cur t (0,0))) (u:Value):w.setCell ⟨b,0,none⟩ u=w.setRow b (cur.setIfInBounds 0 u):=by
 unfold World.setCell World.setRow
 congr 1
 apply Array.ext_getElem?
 intro i
 simp only [Array.getElem?_modify]
 split
 ·rename_i e
  subst e
  rw [h]
  rfl
 ·rfl
/-- A builder's address is put down. -/
theorem used_post {G:Ghost} {w:World} {r b:Nat} {t:TypeId} {u v':Value} {p v:HV} (hs:SRel G [(r,.cells [p,v] t)] w) (hb:G.om r=some b) (ro:G.role b=some r) (hh:w.heap[b]? = some (.cells #[u,v'] t (0,0))) (hv:rel G v v') (hvk:v.kd = .one) (hK:∀ o,G.K b o=none) :
  Post [(r,.cells [p,v] t)] G w [(r,.cells [.ptr r 0,v] t)] G (w.setCell ⟨b,0,none⟩ (.pointer (some ⟨b,0,none⟩))):=by
 rw [setCell_row hh]
 have:=post_write (cur':=(#[u,v']:Array Value).setIfInBounds 0 (.pointer (some ⟨b,0,none⟩))) (x:=.cells [.ptr r 0,v] t) hs hh ro (by simp [keys]) ?_ (.refl G) (fun _ _ _=>rfl) (fun o v e=>by rw [hK] at e;cases e) rfl rfl (fun _ _=>rfl) rfl (setRow_size ..)
 ·rwa [show hset [(r,Res.cells [p,v] t)] r (.cells [.ptr r 0,v] t)=[(r,.cells [.ptr r 0,v] t)] from by rw [hset_cons,if_pos rfl]] at this
 ·refine ⟨b,_,hb,ro,setRow_heap w b _ _ t _ hh,?_,hK⟩
  obtain ⟨h1,h2⟩:=leaf_of hv hvk
  simp only [Array.setIfInBounds]
  refine ⟨.pointer (some ⟨b,0,none⟩),[v'],by simp,⟨rfl,?_⟩,v',[],rfl,⟨hvk,h1⟩,rfl⟩
  simp only [relC]
  exact ⟨b,hb,rfl⟩
end Go.Proofs.Hk

set_option linter.unusedVariables false
set_option linter.unusedSimpArgs false
namespace Go.Proofs.Hk
open Go
noncomputable section
/-! A strings.Builder: what its functions come to, as far as they are not walked. -/
def consU (b:UInt8) (q:Option (List UInt8)):Option (List UInt8):=
 match q with
 |some l=>some (b::l)
 |none=>none
def u8Of (x:HV) (q:Option (List UInt8)):Option (List UInt8):=
 match x with
 |.v (.int .u8 (.ofNat k))=>match Nat.blt k 256 with
  |true=>consU (UInt8.ofNat k) q
  |false=>none
 |_=>none
def u8s (l:List HV):Option (List UInt8):=List.rec (some []) (fun x _ ih=>u8Of x ih) l
theorem u8s_ok {G:Ghost} : ∀ {l:List HV} {bs:List UInt8} {us:List Value},u8s l=some bs→relCs G l us→us=bs.map (fun b=>Value.int .u8 b.toNat)∧bs.length=l.length
 |[],bs,us,h,hr=>by
  have h:some []=some bs:=h
  cases h
  simp only [relCs] at hr
  subst hr
  exact ⟨rfl,rfl⟩
 |x::l,bs,us,h,hr=>by
  change u8Of x (u8s l)=some bs at h
  unfold u8Of at h
  split at h
  ·rename_i k
   split at h
   ·rename_i hk
    have hk:k < 256:=by simpa using hk
    unfold consU at h
    split at h
    ·rename_i bs' hb
     cases h
     simp only [relCs] at hr
     obtain ⟨u,us',rfl,⟨_,h1⟩,h2⟩:=hr
     simp only [relC] at h1
     obtain ⟨h1,_⟩:=h1
     obtain ⟨e1,e2⟩:=u8s_ok hb h2
     refine ⟨?_,by simp [e2]⟩
     simp only [List.cons.injEq,and_true] at h1
     subst h1
     rw [List.map_cons,←e1]
     congr 2
     show (Int.ofNat k)=((UInt8.ofNat k).toNat:Int)
     have:(UInt8.ofNat k).toNat=k:=by simp [UInt8.toNat_ofNat'];omega
     rw [this]
     rfl
    ·cases h
   ·cases h
  ·cases h
def ccP (r:Nat) (p v:HV) (t:TypeId):Option Res:=
 match p with
 |.v (.pointer none)=>some (.cells [.ptr r 0,v] t)
 |.ptr r' 0=>match Nat.beq r' r with
  |true=>some (.cells [.ptr r 0,v] t)
  |false=>none
 |_=>none
def ccT (T:TypeId) (r:Nat) (y:Res):Option Res:=
 match y with
 |.cells [p,v] t=>match Nat.beq t T && kdOne v with
  |true=>ccP r p v t
  |false=>none
 |_=>none
def libCC (T:TypeId) (xs:List HV):Option LibR:=
 match xs with
 |[.ptr r 0]=>some (.turn r (ccT T r))
 |_=>none
def strBytes (s:HS) (q:Nat) (x:Option (List UInt8)):Option (HV × HS):=
 match x with
 |some l=>some (.v (.string ⟨⟨l⟩⟩),serase s q)
 |none=>none
def strRow (E:TypeId) (s:HS) (q n:Nat) (y:Res):Option (HV × HS):=
 match y with
 |.row cs 1 e=>match Nat.beq e E && Nat.blt 0 n && Nat.ble n cs.length && Nat.ble n 140737488355328 with
  |true=>strBytes s q (u8s (cs.take n))
  |false=>none
 |_=>none
def strV (E:TypeId) (s:HS) (v:HV):Option (HV × HS):=
 match v with
 |.v (.slice none 0 0)=>some (.v (.string ⟨#[]⟩),s)
 |.row q n 1=>match sget s q with
  |some y=>strRow E s q n y
  |none=>none
 |_=>none
def strT (T E:TypeId) (r:Nat) (s:HS):Option (HV × HS):=
 match sget s r with
 |some (.cells [p,v] t)=>match Nat.beq t T with
  |true=>strV E s v
  |false=>none
 |_=>none
def libStr (T E:TypeId) (xs:List HV):Option LibR:=
 match xs with
 |[.ptr r 0]=>some (.st (strT T E r))
 |_=>none
section
variable {c:Cx} {f:FuncId} {T E:TypeId}
theorem arg_ptr {G:Ghost} {r:Nat} {vs:Array Value} (h:relVs G [.ptr r 0] vs.toList):∃ b,G.om r=some b∧vs = #[.pointer (some ⟨b,0,none⟩)]:=by
 simp only [relVs_cons,relVs] at h
 obtain ⟨u,l,e1,h1,e2⟩:=h
 subst e2
 obtain ⟨b,hb,rfl⟩:=rel_ptr h1
 exact ⟨b,hb,by rw [←Array.toArray_toList (xs:=vs),e1]⟩
theorem cc_ok (used:∀ (b:Nat) (w:World),w.cell? ⟨b,0,none⟩=some (.pointer (some ⟨b,0,none⟩))→Calls c.P f #[.pointer (some ⟨b,0,none⟩)] w fun e w'=>e = .returned (.tuple #[])∧w'=w)
  (fresh:∀ (b:Nat) (w:World),w.cell? ⟨b,0,none⟩=some (.pointer none)→w.shape? b=some (T,2)→w.frozen? ⟨b,0,none⟩=false→Calls c.P f #[.pointer (some ⟨b,0,none⟩)] w fun e w'=>e = .returned (.tuple #[])∧w'=w.setCell ⟨b,0,none⟩ (.pointer (some ⟨b,0,none⟩)))
  {r:Nat} {y z:Res} (h:ccT T r y=some z):HCalls c.P f [.ptr r 0] [(r,y)] fun e st=>e = .ret (.tup [])∧st=[(r,z)]:=by
 unfold ccT at h
 split at h
 ·rename_i p v t
  split at h
  ·rename_i hc
   simp only [Bool.and_eq_true] at hc
   obtain ⟨ht,hv⟩:=hc
   have ht:=Nat.eq_of_beq_eq_true ht
   subst ht
   have hv:=kdOne_eq hv
   refine ⟨fun G w vs hs ha=>?_⟩
   obtain ⟨b,hb,rfl⟩:=arg_ptr ha
   obtain ⟨b',cur,hb',ro,hh,hcs,hK⟩:=hs.holds r _ List.mem_cons_self
   rw [hb] at hb'
   cases hb'
   obtain ⟨u,v',rfl,h1,h2⟩:=relCs2 hcs
   have hc0:w.cell? ⟨b,0,none⟩=some u:=by simp [World.cell?,hh]
   unfold ccP at h
   split at h
   ·cases h
    have h1:=rel_v_eq h1
    subst h1
    refine (fresh b w hc0 (by simp [World.shape?,hh]) (by simp [World.frozen?,hh])).mono fun e w' ⟨he,hw⟩=>?_
    subst he hw
    exact ⟨.ret (.tup []),_,G,⟨rfl,rfl⟩,(show rel G (.tup []) (.tuple [].toArray) from tup_rel (by simp [relVs])),used_post hs hb ro hh h2 hv hK⟩
   ·rename_i r'
    split at h
    ·rename_i hr
     have hr:=Nat.eq_of_beq_eq_true hr
     subst hr
     cases h
     obtain ⟨b',hb',rfl⟩:=rel_ptr h1
     rw [hb] at hb'
     cases hb'
     refine (used b w hc0).mono fun e w' ⟨he,hw⟩=>?_
     subst he hw
     exact ⟨.ret (.tup []),_,G,⟨rfl,rfl⟩,(show rel G (.tup []) (.tuple [].toArray) from tup_rel (by simp [relVs])),.refl hs⟩
    ·cases h
   ·cases h
  ·cases h
 ·cases h
theorem str_ok (nil:∀ (b:Nat) (p:Value) (w:World),w.heap[b]? = some (.cells #[p,.slice none 0 0] T (0,0))→Calls c.P f #[.pointer (some ⟨b,0,none⟩)] w fun e w'=>e = .returned (.string ⟨#[]⟩)∧w'=w.drew)
  (row:∀ (b g n cap:Nat) (p:Value) (cur:Array Value) (l:List UInt8) (w:World),w.heap[b]? = some (.cells #[p,.slice (some ⟨g,0,none⟩) n cap] T (0,0))→w.heap[g]? = some (.cells cur E (0,0))→l.length=n→l≠[]→n≤cap→n≤cur.size→n≤9223372036854775807→
   (∀ (j:Nat) (x:UInt8),l[j]? = some x→cur[j]? = some (Value.int .u8 x.toNat))→Calls c.P f #[.pointer (some ⟨b,0,none⟩)] w fun e w'=>e = .returned (.string ⟨l.toArray⟩)∧w'=w.drew.freeze ⟨g,0,none⟩ l.length)
  {r:Nat} {s s':HS} {x:HV} (h:strT T E r s=some (x,s')):HCalls c.P f [.ptr r 0] s fun e st=>e = .ret x∧st=s':=by
 unfold strT at h
 split at h
 ·rename_i p v t hsg
  split at h
  ·rename_i ht
   have ht:=Nat.eq_of_beq_eq_true ht
   subst ht
   refine ⟨fun G w vs hs ha=>?_⟩
   obtain ⟨b,hb,rfl⟩:=arg_ptr ha
   obtain ⟨b',cur,hb',ro,hh,hcs,hK⟩:=hs.holds r _ (sget_mem hsg)
   rw [hb] at hb'
   cases hb'
   obtain ⟨u,v',rfl,h1,h2⟩:=relCs2 hcs
   unfold strV at h
   split at h
   ·cases h
    have h2:=rel_v_eq h2
    subst h2
    refine (nil b u w hh).mono fun e w' ⟨he,hw⟩=>?_
    subst he hw
    exact ⟨_,s,G,⟨rfl,rfl⟩,rel_v G,.drawn hs rfl rfl rfl rfl⟩
   ·rename_i q n
    split at h
    ·rename_i y hy
     unfold strRow at h
     split at h
     ·rename_i cs e
      split at h
      ·rename_i hc
       simp only [Bool.and_eq_true,Nat.blt_eq] at hc
       obtain ⟨⟨⟨c1,c2⟩,c3⟩,c4⟩:=hc
       have c1:=Nat.eq_of_beq_eq_true c1
       have c3:=Nat.le_of_ble_eq_true c3
       have c4:=Nat.le_of_ble_eq_true c4
       subst c1
       unfold strBytes at h
       split at h
       ·rename_i bs hbs
        cases h
        obtain ⟨g,cap,e1,e2,hle,rfl⟩:=rel_row h2
        obtain ⟨g',cap',cur,o1,o2,ro2,hg,hcap,hlen,hcs2,hK2⟩:=hs.holds q _ (sget_mem hy)
        rw [e1] at o1;cases o1
        rw [e2] at o2;cases o2
        have hcs3:=relCs_take n hcs2
        rw [List.take_take,Nat.min_eq_left c3] at hcs3
        obtain ⟨u1,u2⟩:=u8s_ok hbs hcs3
        have hbl:bs.length=n:=by rw [u2,List.length_take];omega
        refine (row b g n cap u cur bs w hh hg hbl (fun e=>by subst e;simp at hbl;omega) hle (by omega) (by omega) fun j x hj=>?_).mono fun e w' ⟨he,hw⟩=>?_
        ·have hjl:=(List.getElem?_eq_some_iff.1 hj).1
         have:(cur.toList.take n)[j]? = some (Value.int .u8 x.toNat):=by rw [u1,List.getElem?_map,hj];rfl
         rw [List.getElem?_take_of_lt (by omega)] at this
         rw [←Array.getElem?_toList];exact this
        ·subst he hw
         have p:=serase_perm hy
         have ok:=hs.permd p
         obtain ⟨f1,f2,f3⟩:=freeze_rest w.drew ⟨g,0,none⟩ bs.length
         have post:=post_lost (w':=w.drew.freeze ⟨g,0,none⟩ bs.length) ok ro2 hK2 (fun b' hne=>freeze_other _ _ _ hne) (freeze_size _ _ _) f1 f2 f3
         exact ⟨_,_,G,⟨rfl,rfl⟩,rel_v G,post.permL p.symm⟩
       ·cases h
      ·cases h
     ·cases h
    ·cases h
   ·cases h
  ·cases h
 ·cases h
end
end
end Go.Proofs.Hk

set_option linter.unusedVariables false
set_option linter.unusedSimpArgs false
namespace Go.Proofs.Hk
open Go
/-! What is reckoned once is looked up. -/
def eqKd (a b:IntKind):Bool:=kindEq a b
def eqV:Value→Value→Bool
 |.int k a,.int k' b=>match kindEq k k' with
  |true=>ieq a b
  |false=>false
 |.string a,.string b=>cstrEq a b
 |.bool true,.bool true=>true
 |.bool false,.bool false=>true
 |.slice none 0 0,.slice none 0 0=>true
 |_,_=>false
mutual
def eqH:HV→HV→Bool
 |.v x,.v y=>eqV x y
 |.agg l,.agg m=>eqHs l m
 |.tup l,.tup m=>eqHs l m
 |.list .no a l,.list .no b m=>match Nat.beq a b with
  |true=>eqHs l m
  |false=>false
 |.list .full a l,.list .full b m=>match Nat.beq a b with
  |true=>eqHs l m
  |false=>false
 |_,_=>false
def eqHs:List HV→List HV→Bool
 |[],[]=>true
 |x::l,y::m=>match eqH x y with
  |true=>eqHs l m
  |false=>false
 |_,_=>false
end
theorem eqV_eq {x y:Value} (h:eqV x y=true):x=y:=by
 unfold eqV at h
 split at h
 ·split at h
  ·rename_i hk
   rw [kindEq_eq hk,ieq_iff.1 h]
  ·cases h
 ·rw [←cstrEq_eq] at h
  rw [strEq_eq.1 h]
 ·rfl
 ·rfl
 ·rfl
 ·cases h
mutual
theorem eqH_eq:∀ (x y:HV),eqH x y=true→x=y
 |.v x,y,h=>by
  cases y<;>first|(simp [eqH] at h;done)|skip
  rename_i b
  rw [eqH] at h
  rw [eqV_eq h]
 |.agg l,y,h=>by
  cases y<;>first|(simp [eqH] at h;done)|skip
  rename_i m
  rw [eqH] at h
  rw [eqHs_eq _ _ h]
 |.tup l,y,h=>by
  cases y<;>first|(simp [eqH] at h;done)|skip
  rename_i m
  rw [eqH] at h
  rw [eqHs_eq _ _ h]
 |.list t sz l,y,h=>by
  cases y<;>first|(cases t<;>simp [eqH] at h;done)|skip
  rename_i t' b m
  cases t<;>cases t'<;>first|(simp [eqH] at h;done)|skip
  all_goals
   rw [eqH] at h
   split at h
   ·rename_i hb
    rw [Nat.eq_of_beq_eq_true hb,eqHs_eq _ _ h]
   ·cases h
 |.ptr _ _,y,h=>by simp [eqH] at h
 |.cptr _,y,h=>by simp [eqH] at h
 |.fn _ _ _,y,h=>by simp [eqH] at h
 |.map _,y,h=>by simp [eqH] at h
 |.arr _ _ _ _ _,y,h=>by simp [eqH] at h
 |.iface _ _,y,h=>by simp [eqH] at h
 |.yld _,y,h=>by simp [eqH] at h
 |.row _ _ _,y,h=>by simp [eqH] at h
theorem eqHs_eq:∀ (l m:List HV),eqHs l m=true→l=m
 |[],m,h=>by
  cases m with
  |nil=>rfl
  |cons y m=>simp [eqHs] at h
 |x::l,m,h=>by
  cases m with
  |nil=>simp [eqHs] at h
  |cons y m=>
   rw [eqHs] at h
   split at h
   ·rename_i hx
    rw [eqH_eq _ _ hx,eqHs_eq _ _ h]
   ·cases h
end
/-- One function, at one row of arguments. -/
def libAt (ys:List HV) (z:HV) (xs:List HV):Option LibR:=
 match eqHs (stripL xs) ys with
 |true=>some (.val z)
 |false=>none
/-- A table's row ahead of what is known else. -/
def libAdd (g:FuncId) (ys:List HV) (z:HV) (lib:FuncId→List HV→Option LibR) (f:FuncId) (xs:List HV):Option LibR:=
 match Nat.beq f g with
 |true=>match libAt ys z xs with
  |some r=>some r
  |none=>lib f xs
 |false=>lib f xs
theorem libAdd_ok {c:Cx} {lib:FuncId→List HV→Option LibR} {g:FuncId} {ys:List HV} {z:HV} (h:Pur c g ys z) (hl:LibOk c lib):LibOk c (libAdd g ys z lib):=by
 intro f xs
 have old:=hl f xs
 unfold libAdd
 cases hf:Nat.beq f g with
 |false=>exact old
 |true=>
  have:=Nat.eq_of_beq_eq_true hf
  subst this
  simp only
  unfold libAt
  cases he:eqHs (stripL xs) ys with
  |false=>exact old
  |true=>
   have:=eqHs_eq _ _ he
   subst this
   refine ⟨fun x e=>?_,fun X Y e=>(by cases e),fun _ _ e=>(by cases e),fun _ _ e=>(by cases e),fun _ e=>(by cases e)⟩
   cases e
   exact h.strip.calls []
/-- What is reckoned is so. -/
def isAt (z:HV):Rs→Bool
 |.ret x _ _=>eqH (strip x) z
 |_=>false
theorem run_at {c:Cx} {lib:FuncId→List HV→Option LibR} (hlib:LibOk c lib) {m K d:Nat} {f:FuncId} {xs:List HV} {z:HV} (h:isAt z (run c lib m (.call f xs) [] 0 K d)=true) (hxs:namelessL xs=true) (hz:nameless z=true):Pur c f xs z:=by
 unfold isAt at h
 split at h
 ·rename_i x s j e
  have:=eqH_eq _ _ h
  rw [←this] at hz ⊢
  exact run_pur hlib m K d e hxs hz
 ·cases h
end Go.Proofs.Hk

set_option linter.unusedVariables false
set_option linter.unusedSimpArgs false
namespace Go.Proofs.Hk
open Go
/-! A body that is reckoned piece by piece. -/
noncomputable section
def runs (c:Cx) (lib:FuncId→List HV→Option LibR) (m n K d:Nat):List Code→Fr→HS→Nat→Option (Fr × HS × Nat)
 |[],a,s,k=>some (a,s,k)
 |x::l,a,s,k=>match run c lib m (.code n x a) s k K d with
  |.ok .normal a' s' k'=>runs c lib m n K d l a' s' k'
  |_=>none
def seqs:List Code→Code→Code
 |[],r=>r
 |x::l,r=>.seq x (seqs l r)
theorem runs_ok {c:Cx} {lib:FuncId→List HV→Option LibR} (hlib:LibOk c lib) {m n K d:Nat} : ∀ (l:List Code) (a:Fr) (s:HS) (k:Nat) (a':Fr) (s':HS) (k':Nat),runs c lib m n K d l a s k=some (a',s',k')→k≤K→l.all noRng=true→
  k'≤K∧∀ rest Q,SemWp c.P n rest Q a' (s' ++ V k' K)→SemWp c.P n (seqs l rest) Q a (s ++ V k K)
 |[],a,s,k,a',s',k',h,hk,_=>by
  simp only [runs,Option.some.injEq,Prod.mk.injEq] at h
  obtain ⟨rfl,rfl,rfl⟩:=h
  exact ⟨hk,fun rest Q q=>q⟩
 |x::l,a,s,k,a',s',k',h,hk,hn=>by
  simp only [runs] at h
  simp only [List.all_cons,Bool.and_eq_true] at hn
  split at h
  ·rename_i a1 s1 k1 hr
   obtain ⟨q1,q2,q3⟩:=(run_ok c lib hlib m).1 _ _ _ _ _ _ _ _ _ _ _ hr hk
   obtain ⟨p1,p2⟩:=runs_ok hlib l a1 s1 k1 a' s' k' h q2 hn.2
   exact ⟨p1,fun rest Q q=>sem_seq ((q3 (qThen c.P n (seqs l rest) Q) (qThen.go (p2 rest Q q))).1 hn.1)⟩
  ·cases h
/-- What is kept of a frame, of a state. -/
def keepF (l:List Nat) (a:Fr):Fr:=refresh (l.map fun t=>(t,.sure,.v (.bool false))) a
def prune (l names:List Nat) (q:Option (Fr × HS × Nat)):Option (Fr × HS × Nat):=
 match q with
 |some (a,s,k)=>some (keepF l a,splitA names s,k)
 |none=>none
theorem prune_ok {c:Cx} {lib:FuncId→List HV→Option LibR} (hlib:LibOk c lib) {m n K d:Nat} {l:List Code} {a:Fr} {s:HS} {k:Nat} {ts names:List Nat} {a':Fr} {s':HS} {k':Nat} (h:prune ts names (runs c lib m n K d l a s k)=some (a',s',k')) (hk:k≤K) (hn:l.all noRng=true) :
  k'≤K∧∀ rest Q,SemWp c.P n rest Q a' (s' ++ V k' K)→SemWp c.P n (seqs l rest) Q a (s ++ V k K):=by
 unfold prune at h
 split at h
 ·rename_i a1 s1 k1 hr
  simp only [Option.some.injEq,Prod.mk.injEq] at h
  obtain ⟨rfl,rfl,rfl⟩:=h
  obtain ⟨p1,p2⟩:=runs_ok hlib l a s k a1 s1 _ hr hk hn
  refine ⟨p1,fun rest Q q=>p2 rest Q ?_⟩
  have e:Sb (splitA names s1 ++ V k1 K) (s1 ++ V k1 K):=Sb.app ⟨splitB names s1,split_perm names s1⟩ (.refl _)
  exact SemWp.less e.subp (q.forget (refresh_sub _ _))
 ·cases h
/-- The rest of a body. -/
def evTailS (c:Cx) (lib:FuncId→List HV→Option LibR) (m:Nat) (fn:Func) (rest:Code) (a:Fr) (s:HS) (k K d:Nat):Rs:=
 evAhead c fn (fun a s k=>evFin c fn a s k) (run c lib m (.code fn.ntmps rest a) s k K d)
theorem evTailS_ok {c:Cx} {lib:FuncId→List HV→Option LibR} (hlib:LibOk c lib) {m K d:Nat} {fn:Func} {rest:Code} {a:Fr} {s0:HS} {k:Nat} {x:HV} {s:HS} {j:Nat} (h:evTailS c lib m fn rest a s0 k K d = .ret x s j) (hk:k≤K) (hn:noRng rest=true) :
  SemWp c.P fn.ntmps rest (BodyR c fn.results.toList (fun e st=>e = .ret x∧st=s ++ V j K)) a (s0 ++ V k K):=by
 unfold evTailS at h
 cases hr:run c lib m (.code fn.ntmps rest a) s0 k K d with
 |out _ _=>rw [hr] at h;cases h
 |ret _ _ _=>rw [hr] at h;cases h
 |pan _ _ _=>rw [hr] at h;cases h
 |ok e a1 s1 k1=>
  rw [hr] at h
  obtain ⟨q1,q2,q3⟩:=(run_ok c lib hlib m).1 _ _ _ _ _ _ _ _ _ _ _ hr hk
  cases e with
  |exit j=>cases h
  |pan v=>cases h
  |normal=>
   have h:evFin c fn a1 s1 k1 = .ret x s j:=h
   obtain ⟨e1,e2,_⟩:=evFin_ret h
   subst e1 e2
   exact (q3 _ ⟨evFin_resQ (t:=V j K) h (fun e st=>e = .ret x∧st=s ++ V j K) ⟨rfl,rfl⟩⟩).1 hn
  |ret=>
   have h:evFin c fn a1 s1 k1 = .ret x s j:=h
   obtain ⟨e1,e2,_⟩:=evFin_ret h
   subst e1 e2
   exact (q3 _ ⟨evFin_resQ (t:=V j K) h (fun e st=>e = .ret x∧st=s ++ V j K) ⟨rfl,rfl⟩⟩).1 hn
/-- What the rest of a body answers, whatever is left behind. -/
def yesRs (r:Rs):Bool:=
 match r with
 |.ret (.v (.bool true)) _ _=>true
 |_=>false
theorem tail_yes {c:Cx} {lib:FuncId→List HV→Option LibR} (hlib:LibOk c lib) {m K d:Nat} {fn:Func} {rest:Code} {a:Fr} {s0:HS} {k:Nat} (h:yesRs (evTailS c lib m fn rest a s0 k K d)=true) (hk:k≤K) (hn:noRng rest=true) :
  ∃ s j,SemWp c.P fn.ntmps rest (BodyR c fn.results.toList (fun e st=>e = .ret (.v (.bool true))∧st=s ++ V j K)) a (s0 ++ V k K):=by
 unfold yesRs at h
 split at h
 ·rename_i s j e
  exact ⟨s,j,evTailS_ok hlib e hk hn⟩
 ·cases h
end
end Go.Proofs.Hk

set_option linter.unusedSimpArgs false
set_option linter.unusedVariables false
namespace Go.Proofs.Hk
noncomputable section
open Go Go.Proofs Go.RowKit Go.WideShapes Go.ChangeShapes
/-- What is known at the entry. -/
def entryG (w:World):Ghost:={ K:=fun b o=>w.cell? ⟨b,o,none⟩,om:=fun _=>none,top:=fun _=>none,role:=fun _=>none,lim:=0}
theorem entry_srel (w:World):SRel (entryG w) [] w:=
 ⟨fun _ _ _ e=>e,by simp [keys],fun _ _ h=>by simp at h,fun _ _=>⟨rfl,rfl⟩,fun _ _ e=>by simp [entryG] at e⟩
theorem Ext.below {G G':Ghost} {w w':World} (h:Ext [] G w G' w'):Below w.heap.size w w':=
 ⟨h.os,h.tape,h.output,h.size,fun k hk=>(h.blocks k hk (fun _ _=>by simp [keys])).1⟩
/-- A pure function that comes to a plain value, called from any world. -/
theorem Pur.below {c:Cx} {f:FuncId} {xs:List HV} {x:Value} (h:Pur c f xs (.v x)) {w:World} {vs:Array Value} (ha:relVs (entryG w) xs vs.toList):Calls c.P f vs w fun e w'=>e = .returned x∧Below w.heap.size w w':=
 (h.out.out (entryG w) w vs (entry_srel w) ha).mono fun e w' ⟨he,s',G',⟨h1,h2⟩,h3,h4⟩=>by
  subst h1
  cases e<;>first|exact h3.elim|skip
  exact ⟨by rw [rel_v_eq h3],h4.ext.below⟩
open Go Go.ChangeShapes Go.WideShapes Go.ChangeAt Go.RowKit
section
variable {H:Type} {enc:TypeId × Value→H} {P:Program}
theorem post_of_below {f:Func} {s:ChangeSpec} {apart fresh handsOn again:Bool} {W W':World} {args:Array Value} {v:Value} {ds gs:List (DataW H)} {before pa pv:List MemPlace}
  (hW:DataW.Whole enc P f.params.toList s.vars apart W args.toList ds gs before)
  (hres:∀ (b:Nat) (sp:Nat→Bool) (hd:Bool),DataW.TrodAll enc P W' b sp hd f.resultTypes.toList (v.resultList f.resultTypes.size) (s.fn H (ds ++ gs)).results [])
  (hargs:∀ sp:Nat→Bool,(∀ p∈before,sp p.block=true)→DataW.TrodAll enc P W' 0 sp true f.params.toList args.toList (s.fn H (ds ++ gs)).args pa)
  (hvars:∀ sp:Nat→Bool,(∀ p∈before,sp p.block=true)→DataW.TrodVars enc P W' sp s.vars (s.fn H (ds ++ gs)).vars pv)
  (hps:before=pa ++ pv) (hb:Below W.heap.size W W')
  (hok:∀ (j:Nat) (t:TypeId) (r:Value),f.resultTypes[j]? = some t→(v.resultList f.resultTypes.size)[j]? = some r→Value.okWide P W' .any 0 t r) :
  s.post enc P f apart fresh handsOn again W args v W':=by
 have hlt:∀ p∈before,p.block < W.heap.size:=fun p hp=>hW.lt p hp
 have hold:∀ p∈before,(fun b=>decide (b < W.heap.size)) p.block=true:=fun p hp=>by simpa using hlt p hp
 refine ⟨ds,gs,before,[],pa,pv,hW,hres _ _ _,hargs _ hold,hvars _ hold,World.keptBut_mono (fun p hp=>⟨hp,?_⟩) (hb.frame (·∈before)),fun _=>?_⟩
 ·rw [hps,List.mem_append] at hp
  exact Or.inr hp
 ·obtain ⟨_,_,_,_,_,hz,hn⟩:=hW
  refine ⟨hok,_,_,([] ++ pa) ++ pv,⟨[] ++ pa,pv,trodAll_append (hargs _ (fun _ _=>rfl)) (hres _ _ _),hvars _ (fun _ _=>rfl),rfl,?_,?_⟩,?_⟩
  ·intro b off hp
   have hin:MemPlace.cell b off∈before:=by rw [hps];simpa using hp
   rw [hb.frozen (hlt _ hin)]
   exact hz b off hin
  ·intro ha
   have:=hn ha
   rw [hps] at this
   simpa using this
  ·intro p hp _
   rw [hps]
   simpa using hp
end
section
variable {H:Type} {enc:TypeId × Value→H} {P:Program}
theorem trodAll_stays (hl:laidOutB P=true) {W W':World} (hb:Below W.heap.size W W'):∀ {ts:List TypeId} {vs:List Value} {ds:List (DataW H)} {ps:List MemPlace},(ts.all fun t=>P.readableRec t && decide (t < P.types.size))=true→DataW.TrodAll enc P W 0 (fun _=>true) true ts vs ds ps→(∀ x∈ps,x.block < W.heap.size)→∀ sp:Nat→Bool,(∀ x∈ps,sp x.block=true)→DataW.TrodAll enc P W' 0 sp true ts vs ds ps
 |[],vs,ds,ps,_,h,_,sp,_=>by
  obtain ⟨rfl,rfl,rfl⟩:=trodAll_nil h
  rfl
 |t::ts,vs,ds,ps,hr,h,hlt,sp,hs=>by
  obtain ⟨v,vs,d,ds,p,q,rfl,rfl,rfl,hd,hrest⟩:=trodAll_cons h
  simp only [List.all_cons,Bool.and_eq_true,decide_eq_true_eq] at hr
  refine ⟨p,q,WideElems.Trod_stays hl hr.1.1 hr.1.2 hd (fun x hx=>hb.same (hlt x (by simp [hx]))) (fun x hx=>hs x (by simp [hx])),trodAll_stays hl hb (by simpa using hr.2) hrest (fun x hx=>hlt x (by simp [hx])) sp (fun x hx=>hs x (by simp [hx])),rfl⟩
theorem law_post {f:Func} {s:ChangeSpec} {W W':World} {args:Array Value} {ds gs:List (DataW H)} {before:List MemPlace} {tb:TypeId} (hl:laidOutB P=true) (hro:(f.params.toList.all fun t=>P.readableRec t && decide (t < P.types.size))=true) (hvs:s.vars=[])
  (hW:DataW.Whole enc P f.params.toList s.vars false W args.toList ds gs before) (hb:Below W.heap.size W W') (hres:(s.fn H (ds ++ gs)).results=[.lit (.bool true)]) (hargs:(s.fn H (ds ++ gs)).args=ds) (hv:(s.fn H (ds ++ gs)).vars=[]) (ht:f.resultTypes = #[tb]) (hu:P.underlying tb=some .bool) :
  s.post enc P f false true false false W args (.bool true) W':=by
 have hlt:∀ p∈before,p.block < W.heap.size:=fun p hp=>hW.lt p hp
 have hW':=hW
 obtain ⟨p,q,hA,hV,rfl,_,_⟩:=hW
 rw [hvs] at hV
 obtain ⟨rfl,rfl⟩:=trodVars_none hV
 refine post_of_below (pa:=p) (pv:=[]) hW' (fun b sp hd=>?_) (fun sp hs=>?_) (fun sp hs=>?_) rfl hb (ok_one ht rfl (okWide_bool_mk hu true))
 ·rw [hres,ht]
  exact trodAll_mk1 (shut_bool hu true)
 ·rw [hargs]
  exact trodAll_stays hl hb hro hA (fun x hx=>hlt x (by simpa using hx)) sp (fun x hx=>hs x (by simpa using hx))
 ·rw [hv,hvs];rfl
end
end
end Go.Proofs.Hk

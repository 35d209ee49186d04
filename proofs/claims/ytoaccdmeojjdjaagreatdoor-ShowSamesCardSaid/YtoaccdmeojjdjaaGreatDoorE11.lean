import Derived.Test.YtoaccdmeojjdjaaGreatDoorE8
import Derived.Test.YtoaccdmeojjdjaaGreatDoorH45
set_option linter.unusedVariables false
set_option linter.unusedSimpArgs false
namespace Go.Proofs.Hk
open Go
theorem refresh_sub:∀ a b:Fr,(refresh a b).Sub b
 |[],b=>Sub.nil b
 |(t,g0,x0)::a,b=>by
  simp only [refresh]
  cases h:fget b t with
  |none=>exact refresh_sub a b
  |some p=>
   obtain ⟨g,x⟩:=p
   exact Sub.cons ((fget_eq b t).trans h) rfl (refresh_sub a b)
/-! Results. -/
theorem cellIs_ok {c:Cx} {s t:HS} {ty:TypeId} {r off:Nat} {k:HV→Option (List HV)} {xs:List HV} (h:cellIs s (cload c ty (.ptr r off)) k=some xs):∃ y,k y=some xs∧∀ K:HV→Prop,K y→LoadIs c (s ++ t) ty r off K:=by
 unfold cload at h
 cases hd:c.ty ty with
 |none=>rw [hd] at h;cases h
 |some d=>
  rw [hd] at h
  simp only [cellIs] at h
  cases hy:sget s r with
  |none=>rw [hy] at h;cases h
  |some y=>
   rw [hy] at h
   cases y<;>simp only at h<;>(first|cases h|skip)
   rename_i cs t'
   have hg:=sget_append (t:=t) hy
   cases ha:d.isAgg with
   |true=>
    rw [ha] at h
    simp only at h
    cases hb:Nat.ble (off+d.size) cs.length with
    |false=>rw [hb] at h;cases h
    |true=>
     rw [hb] at h
     simp only [forceL_eq] at h
     exact ⟨_,h,fun K hK=>⟨cs,t',d,hg,hd,.inl ⟨ha,Nat.le_of_ble_eq_true hb,hK⟩⟩⟩
   |false=>
    rw [ha] at h
    simp only at h
    cases hx:cs[off]? with
    |none=>rw [hx] at h;cases h
    |some x=>
     rw [hx] at h
     simp only [cif] at h
     cases hk:kdOne x with
     |false=>rw [hk] at h;cases h
     |true=>
      rw [hk] at h
      exact ⟨_,h,fun K hK=>⟨cs,t',d,hg,hd,.inr ⟨ha,x,hx,hk,hK⟩⟩⟩
theorem consO_ok {x:HV} {q:Option (List HV)} {xs:List HV} (h:consO x q=some xs):∃ l,q=some l∧xs=x::l:=by
 cases q with
 |none=>cases h
 |some l=>cases h;exact ⟨l,rfl,rfl⟩
theorem evRes_ok {c:Cx} {a:Fr} {s t:HS} : ∀ {rs:List ResultVar} {xs:List HV},evRes c a s rs=some xs→∀ K:List HV→Prop,K xs→resG c a (s ++ t) rs K
 |[],xs,h,K,hK=>by
  have h:some []=some xs:=h
  cases h
  exact hK
 |.tmp u::l,xs,h,K,hK=>by
  simp only [evRes] at h
  split at h
  ·rename_i x hx
   obtain ⟨l',h1,rfl⟩:=consO_ok h
   exact ⟨x,(fget_eq a u).trans hx,evRes_ok h1 _ hK⟩
  ·cases h
 |.cell p ty::l,xs,h,K,hK=>by
  simp only [evRes] at h
  split at h
  ·rename_i r off hx
   obtain ⟨y,h1,h2⟩:=cellIs_ok (t:=t) h
   obtain ⟨l',h3,rfl⟩:=consO_ok h1
   exact ⟨r,off,(fget_eq a p).trans hx,h2 _ (evRes_ok h3 _ hK)⟩
  ·cases h
theorem evFin_ret {c:Cx} {fn:Func} {a:Fr} {s:HS} {k:Nat} {x:HV} {s':HS} {k':Nat} (h:evFin c fn a s k = .ret x s' k'):s'=s∧k'=k∧∃ xs,evRes c a s fn.results.toList=some xs∧x=tupOf xs:=by
 unfold evFin at h
 split at h
 ·rename_i xs e
  injection h with e1 e2 e3
  exact ⟨e2.symm,e3.symm,xs,e,e1.symm⟩
 ·cases h
theorem evFin_pan {c:Cx} {fn:Func} {a:Fr} {s:HS} {k:Nat} {x:HV} {s':HS} {k':Nat} (h:evFin c fn a s k = .pan x s' k'):False:=by
 unfold evFin at h
 split at h<;>cases h
theorem evFin_resQ {c:Cx} {fn:Func} {a:Fr} {s t:HS} {k:Nat} {x:HV} {s':HS} {k':Nat} (h:evFin c fn a s k = .ret x s' k') (R:HEnd→HS→Prop) (hR:R (.ret x) (s ++ t)):ResQ c fn.results.toList R a (s ++ t):=by
 obtain ⟨_,_,xs,h1,rfl⟩:=evFin_ret h
 exact evRes_ok h1 _ ⟨hR⟩
/-- What a callee is reckoned to. -/
def EndOk (c:Cx) (K:Nat) (f:FuncId) (xs:List HV) (s:HS) (k:Nat) (r:Rs):Prop:=
 (∀ x s' k',r = .ret x s' k'→k≤k'∧k'≤K∧HCalls c.P f xs (s ++ V k K) fun e st=>e = .ret x∧st=s' ++ V k' K)∧
  (∀ x s' k',r = .pan x s' k'→k≤k'∧k'≤K∧HCalls c.P f xs (s ++ V k K) fun e st=>e = .pan x∧st=s' ++ V k' K)
/-- Code, with loops over functions or without. -/
def SemB (c:Cx) (n:Nat) (code:Code) (Q:HExit→Fr→HS→Prop) (a:Fr) (s:HS):Prop:=(noRng code=true→SemWp c.P n code Q a s)∧SemM c.P n code Q a s
theorem SemB.of {c:Cx} {n:Nat} {code:Code} {Q:HExit→Fr→HS→Prop} {a:Fr} {s:HS} (h:SemWp c.P n code Q a s):SemB c n code Q a s:=⟨fun _=>h,.of h⟩
theorem noDef_noRng:∀ {x:Code},noDef x=true→noRng x=true
 |.skip,_=>rfl
 |.region _ _ _,_=>rfl
 |.seq x y,h=>by
  have h:(noDef x && noDef y)=true:=h
  show (noRng x && noRng y)=true
  rw [noDef_noRng (and_l h),noDef_noRng (and_r h)];rfl
 |.cond _ x y,h=>by
  have h:(noDef x && noDef y)=true:=h
  show (noRng x && noRng y)=true
  rw [noDef_noRng (and_l h),noDef_noRng (and_r h)];rfl
 |.block _ b,h=>noDef_noRng (x:=b) h
 |.loop b,h=>noDef_noRng (x:=b) h
 |.scope _,h=>by cases h
 |.rangeFunc _ _ _ _,h=>by cases h
 |.exit _,_=>rfl
 |.label _,_=>rfl
 |.goto _,h=>by cases h
 |.ret,_=>rfl
 |.refuse _,h=>by cases h
/-- The machine as it is known so far. -/
def CodeOk (c:Cx) (rec:Task→HS→Nat→Nat→Nat→Rs):Prop:=
 ∀ n code a s k K d e a' s' k',rec (.code n code a) s k K d = .ok e a' s' k'→k≤K→k≤k'∧k'≤K∧∀ Q:HExit→Fr→HS→Prop,Q e a' (s' ++ V k' K)→SemB c n code Q a (s ++ V k K)
def RecOk (c:Cx) (rec:Task→HS→Nat→Nat→Nat→Rs):Prop:=
 CodeOk c rec∧∀ K d,CallOk c K (fun f xs s k=>rec (.call f xs) s k K d)
/-! Defers. -/
theorem sures_hop {a:Fr} : ∀ {xs:List Operand} {vs:List HV},sures a xs=some vs→∀ k:List HV→OpRes,argsM a xs k=k vs
 |[],vs,h,k=>by
  have h:some []=some vs:=h
  cases h
  rfl
 |x::xs,vs,h,k=>by
  simp only [sures] at h
  split at h
  ·rename_i v hv
   obtain ⟨l,h1,rfl⟩:=consO_ok h
   rw [←cev_eq] at hv
   simp only [argsM,arg,hv]
   exact sures_hop h1 _
  ·cases h
theorem deferOf_ok {c:Cx} {fn:Func} {a:Fr} {x:Code} {g:FuncId} {xs:List HV} {a':Fr} (h:deferOf c fn.ntmps a x=some ⟨g,xs,a'⟩) {R:HEnd→HS→Prop} {y:Code} {s:HS}
  (hy:SemWp c.P fn.ntmps y (EndD c fn R g xs) a' s):SemD c fn R (.seq x y) a s:=by
 unfold deferOf at h
 split at h
 ·rename_i id ops
  split at h
  ·rename_i o1 o2 hops
   have hops:ops = #[o1,o2]:=by rw [←Array.toArray_toList (xs:=ops),hops]
   subst hops
   split at h
   ·rename_i g' fi ca hop1
    split at h
    ·rename_i fi' ca' hfi hca
     split at h
     ·rename_i hact1
      split at h
      ·rename_i a1 hp1
       split at h
       ·rename_i hact2
        split at h
        ·rename_i t as ts hop2
         split at h
         ·rename_i hd2 has hk
          split at h
          ·rename_i d hd1
           split at h
           ·rename_i hdt
            simp only [Option.some.injEq,DefC.mk.injEq] at h
            obtain ⟨rfl,rfl,rfl⟩:=h
            have hdt:=Nat.eq_of_beq_eq_true hdt
            subst hdt
            have has:as = #[]:=by rw [←Array.toArray_toList (xs:=as),has]
            subst has
            have hx:hop c o1.op a s = .pure (.fn (.func g') fi' ca'):=by
             rw [hop1]
             simp only [hop]
             rw [sures_hop hfi,sures_hop hca]
            have hg:a1.get d=some (.sure,.fn (.func g') fi' ca'):=by
             unfold hput at hp1
             rw [hd1] at hp1
             simp only at hp1
             split at hp1
             ·cases hp1;simp [Fr.get]
             ·cases hp1
            exact semD_defer c d hact1 hx hp1 hact2 hop2 rfl rfl hd2 hg hk hy
           ·cases h
          ·cases h
         ·cases h
        ·cases h
       ·cases h
      ·cases h
     ·cases h
    ·cases h
   ·cases h
  ·cases h
 ·cases h
theorem recOf_ok {c:Cx} {g:FuncId} {xs:List HV} {v:HV} {r:RecC} (h:recOf c g xs v=some r):∃ fn id o1 o2 t cl a1,c.P.funcs[g]? = some fn∧fn.body=some (.seq (.region id #[o1,o2] false) (.cond (.tmp t) r.X .skip))∧fn.results = #[]∧Nat.ble xs.length fn.ntmps=true∧r.n=fn.ntmps∧
  o1.op = .call cl∧cl.callee = .builtin .recover∧cl.args = #[]∧active #[o1,o2] (initFr xs 0) o1=some .sure∧hput fn.ntmps o1.dst .sure v (initFr xs 0)=some a1∧active #[o1,o2] a1 o2=some .sure∧
  cop c o2.op a1 = .val (.v (.bool r.yes))∧nilTest a1 o2.op=true∧hput fn.ntmps o2.dst .sure (.v (.bool r.yes)) a1=some r.a∧r.a.get t=some (.sure,.v (.bool r.yes)):=by
 unfold recOf at h
 split at h
 ·cases h
 ·rename_i fn hfn
  split at h
  ·rename_i id ops t X hbody
   split at h
   ·rename_i o1 o2 hops hres hn
    have hops:ops = #[o1,o2]:=by rw [←Array.toArray_toList (xs:=ops),hops]
    subst hops
    have hres:fn.results = #[]:=by rw [←Array.toArray_toList (xs:=fn.results),hres]
    split at h
    ·rename_i as ts hop1
     split at h
     ·rename_i a1 has hact1 hp1
      have has:as = #[]:=by rw [←Array.toArray_toList (xs:=as),has]
      subst has
      split at h
      ·rename_i hact2
       split at h
       ·rename_i b hc2 hnil
        split at h
        ·rename_i a2 hp2
         split at h
         ·rename_i b' hg
          rw [←fget_eq] at hg
          split at h
          ·simp only [Option.some.injEq] at h
           subst h
           exact ⟨fn,id,o1,o2,t,_,a1,hfn,hbody,hres,hn,rfl,hop1,rfl,rfl,hact1,hp1,hact2,hc2,hnil,hp2,hg⟩
          ·simp only [Option.some.injEq] at h
           subst h
           exact ⟨fn,id,o1,o2,t,_,a1,hfn,hbody,hres,hn,rfl,hop1,rfl,rfl,hact1,hp1,hact2,hc2,hnil,hp2,hg⟩
          ·cases h
         ·cases h
        ·cases h
       ·cases h
      ·cases h
     ·cases h
    ·cases h
   ·cases h
  ·cases h
theorem nilTest_hop {c:Cx} {s:HS} {a:Fr} {o:Op} {x:HV} (h:cop c o a = .val x) (hn:nilTest a o=true):hop c o a s = .pure x:=by
 cases o<;>(first|(cases hn;done)|skip)
 rename_i op t x0 y z
 simp only [nilTest,Bool.and_eq_true] at hn
 have hA:=cop_ok c (.binOp op t x0 y z) a s
 rw [h] at hA
 simp only [hop,hn.1] at hA ⊢
 have h2:=hn.2
 unfold isSureO at h2
 split at h2
 ·rename_i u hu
  rw [←cev_eq] at hu
  simp only [arg,hu] at hA ⊢
  have:∀ φ y,hifaceNil c op t u≠.val φ y:=fun φ y e=>by
   unfold hifaceNil at e
   split at e
   ·split at e
    ·cases op<;>simp only [hifaceEq] at e<;>cases e
    ·cases op<;>simp only [hifaceEq] at e<;>cases e
    ·cases e
   ·cases e
  generalize hifaceNil c op t u=q at hA this ⊢
  cases hA with
  |pure=>rfl
  |val hφ=>exact absurd rfl (this _ _)
 ·cases h2
theorem noPan_ok {c:Cx} {fn:Func} {g:FuncId} {xs:List HV} {a:Fr} {s t:HS} {k:Nat} {x:HV} {s':HS} {k':Nat} (h:evNoPan c fn g xs a s k = .ret x s' k'):evFin c fn a s k = .ret x s' k'∧DRet c g xs (s ++ t) (s ++ t):=by
 unfold evNoPan at h
 split at h
 ·rename_i m X a2 hr
  obtain ⟨fn',id,o1,o2,u,cl,a1,h1,h2,h3,h4,h5,h6,h7,h8,h9,h10,h11,h12,h13,h14,h15⟩:=recOf_ok hr
  exact ⟨h,dret_rec c h1 h2 h3 h4 h6 h7 h8 h9 h10 h11 (nilTest_hop h12 h13) h14 h15⟩
 ·cases h
theorem noPan_pan {c:Cx} {fn:Func} {g:FuncId} {xs:List HV} {a:Fr} {s:HS} {k:Nat} {x:HV} {s':HS} {k':Nat} (h:evNoPan c fn g xs a s k = .pan x s' k'):False:=by
 unfold evNoPan at h
 split at h
 ·exact evFin_pan h
 ·cases h
theorem didPan_ok {c:Cx} {rec:Task→HS→Nat→Nat→Nat→Rs} (hrec:CodeOk c rec) {K d:Nat} {fn:Func} {g:FuncId} {xs:List HV} {v:HV} {a:Fr} {s:HS} {k:Nat} {x:HV} {s':HS} {k':Nat} (hk:k≤K)
  (h:evDidPan c fn (fun t s k=>rec t s k K d) g xs v a s k = .ret x s' k'):∃ s1 k1,k≤k1∧k1≤K∧evFin c fn a s1 k1 = .ret x s' k'∧DPan c g xs v (s ++ V k K) (s1 ++ V k1 K):=by
 unfold evDidPan at h
 split at h
 ·rename_i m X a2 hr
  obtain ⟨fn',id,o1,o2,u,cl,a1,h1,h2,h3,h4,h5,h6,h7,h8,h9,h10,h11,h12,h13,h14,h15⟩:=recOf_ok hr
  split at h
  ·cases h
  rename_i hX
  split at h
  ·rename_i a3 s1 k1 hrun
   obtain ⟨q1,q2,q3⟩:=hrec _ _ _ _ _ _ _ _ _ _ _ hrun hk
   have h5:m=fn'.ntmps:=h5
   subst h5
   exact ⟨s1,k1,q1,q2,h,dpan_rec c h1 h2 h3 h4 h6 h7 h8 h9 h10 h11 (nilTest_hop h12 h13) h14 h15 ((q3 _ ⟨rfl,Subp.refl _⟩).1 hX)⟩
  ·cases h
  ·cases h
 ·cases h
theorem didPan_pan {c:Cx} {fn:Func} {rec:Task→HS→Nat→Rs} {g:FuncId} {xs:List HV} {v:HV} {a:Fr} {s:HS} {k:Nat} {x:HV} {s':HS} {k':Nat} (h:evDidPan c fn rec g xs v a s k = .pan x s' k'):False:=by
 unfold evDidPan at h
 split at h
 ·split at h
  ·cases h
  split at h
  ·exact evFin_pan h
  ·cases h
  ·cases h
 ·cases h
/-- A function with a defer, from its body on. -/
def DefOk (c:Cx) (fn:Func) (K:Nat) (code:Code) (a:Fr) (s:HS) (k:Nat) (r:Rs):Prop:=
 (∀ x s' k',r = .ret x s' k'→k≤k'∧k'≤K∧SemD c fn (fun e st=>e = .ret x∧st=s' ++ V k' K) code a (s ++ V k K))∧
  (∀ x s' k',r = .pan x s' k'→k≤k'∧k'≤K∧SemD c fn (fun e st=>e = .pan x∧st=s' ++ V k' K) code a (s ++ V k K))
theorem evDefer_ok {c:Cx} {rec:Task→HS→Nat→Nat→Nat→Rs} (hrec:CodeOk c rec) {K d:Nat} {fn:Func} : ∀ (code:Code) (a:Fr) (s:HS) (k:Nat),noRng code=true→k≤K→DefOk c fn K code a s k (evDefer c fn (fun t s k=>rec t s k K d) code a s k)
 |.seq x y,a,s,k,hng,hk=>by
  have hng:(noRng x && noRng y)=true:=hng
  have hx0:=and_l hng
  have hy0:=and_r hng
  simp only [evDefer]
  cases hd:deferOf c fn.ntmps a x with
  |some dc=>
   obtain ⟨g,xs,a'⟩:=dc
   simp only
   have go:∀ (w:HV) (s':HS) (k':Nat),evDeferred c fn (fun t s k=>rec t s k K d) g xs (rec (.code fn.ntmps y a') s k K d) = .ret w s' k'→k≤k'∧k'≤K∧SemD c fn (fun e st=>e = .ret w∧st=s' ++ V k' K) (.seq x y) a (s ++ V k K):=by
    intro w s' k' h
    unfold evDeferred at h
    split at h
    ·rename_i a1 s1 k1 hr
     obtain ⟨q1,q2,q3⟩:=hrec _ _ _ _ _ _ _ _ _ _ _ hr hk
     obtain ⟨p1,p2⟩:=noPan_ok (t:=V k1 K) h
     obtain ⟨e1,e2,_⟩:=evFin_ret p1
     subst e1 e2
     exact ⟨q1,q2,deferOf_ok hd ((q3 _ ⟨_,p2,evFin_resQ p1 _ ⟨rfl,rfl⟩⟩).1 hy0)⟩
    ·rename_i a1 s1 k1 hr
     obtain ⟨q1,q2,q3⟩:=hrec _ _ _ _ _ _ _ _ _ _ _ hr hk
     obtain ⟨p1,p2⟩:=noPan_ok (t:=V k1 K) h
     obtain ⟨e1,e2,_⟩:=evFin_ret p1
     subst e1 e2
     exact ⟨q1,q2,deferOf_ok hd ((q3 _ ⟨_,p2,evFin_resQ p1 _ ⟨rfl,rfl⟩⟩).1 hy0)⟩
    ·rename_i v a1 s1 k1 hr
     obtain ⟨q1,q2,q3⟩:=hrec _ _ _ _ _ _ _ _ _ _ _ hr hk
     obtain ⟨s2,k2,p1,p2,p3,p4⟩:=didPan_ok hrec q2 h
     obtain ⟨e1,e2,_⟩:=evFin_ret p3
     subst e1 e2
     exact ⟨by omega,p2,deferOf_ok hd ((q3 _ ⟨_,p4,evFin_resQ p3 _ ⟨rfl,rfl⟩⟩).1 hy0)⟩
    ·cases h
    ·cases h
   refine ⟨go,fun w s' k' h=>?_⟩
   unfold evDeferred at h
   split at h
   ·exact (noPan_pan h).elim
   ·exact (noPan_pan h).elim
   ·exact (didPan_pan h).elim
   ·cases h
   ·cases h
  |none=>
   simp only
   have key:∀ (w:HEnd) (s':HS) (k':Nat),(∃ z,w = .ret z∧evAhead c fn (evDefer c fn (fun t s k=>rec t s k K d) y) (rec (.code fn.ntmps x a) s k K d) = .ret z s' k'∨w = .pan z∧evAhead c fn (evDefer c fn (fun t s k=>rec t s k K d) y) (rec (.code fn.ntmps x a) s k K d) = .pan z s' k')→
     k≤k'∧k'≤K∧SemD c fn (fun e st=>e=w∧st=s' ++ V k' K) (.seq x y) a (s ++ V k K):=by
    rintro w s' k' ⟨z,h⟩
    cases hr:rec (.code fn.ntmps x a) s k K d with
    |out _ _=>rw [hr] at h;rcases h with ⟨_,h⟩|⟨_,h⟩<;>cases h
    |ret _ _ _=>rw [hr] at h;rcases h with ⟨_,h⟩|⟨_,h⟩<;>cases h
    |pan _ _ _=>rw [hr] at h;rcases h with ⟨_,h⟩|⟨_,h⟩<;>cases h
    |ok e a1 s1 k1=>
     rw [hr] at h
     obtain ⟨q1,q2,q3⟩:=hrec _ _ _ _ _ _ _ _ _ _ _ hr hk
     cases e with
     |exit j=>rcases h with ⟨_,h⟩|⟨_,h⟩<;>cases h
     |normal=>
      have ih:=evDefer_ok (d:=d) (fn:=fn) hrec y a1 s1 k1 hy0 q2
      rcases h with ⟨rfl,h⟩|⟨rfl,h⟩
      ·obtain ⟨r1,r2,r3⟩:=ih.1 _ _ _ h
       exact ⟨by omega,r2,semD_seq c ((q3 _ ⟨r3⟩).1 hx0)⟩
      ·obtain ⟨r1,r2,r3⟩:=ih.2 _ _ _ h
       exact ⟨by omega,r2,semD_seq c ((q3 _ ⟨r3⟩).1 hx0)⟩
     |ret=>
      rcases h with ⟨rfl,h⟩|⟨rfl,h⟩
      ·have h:evFin c fn a1 s1 k1 = .ret z s' k':=h
       obtain ⟨e1,e2,_⟩:=evFin_ret h
       subst e1 e2
       exact ⟨q1,q2,semD_seq c ((q3 _ ⟨evFin_resQ h _ ⟨rfl,rfl⟩⟩).1 hx0)⟩
      ·exact (evFin_pan (show evFin c fn a1 s1 k1 = .pan z s' k' from h)).elim
     |pan v=>
      rcases h with ⟨rfl,h⟩|⟨rfl,h⟩
      ·cases h
      ·have h:Rs.pan v s1 k1 = .pan z s' k':=h
       injection h with e1 e2 e3
       subst e1 e2 e3
       exact ⟨q1,q2,semD_seq c ((q3 _ ⟨⟨rfl,rfl⟩⟩).1 hx0)⟩
   exact ⟨fun w s' k' h=>key (.ret w) s' k' ⟨w,.inl ⟨rfl,h⟩⟩,fun w s' k' h=>key (.pan w) s' k' ⟨w,.inr ⟨rfl,h⟩⟩⟩
 |.skip,_,_,_,_,_=>⟨fun _ _ _ h=>by simp [evDefer] at h,fun _ _ _ h=>by simp [evDefer] at h⟩
 |.region _ _ _,_,_,_,_,_=>⟨fun _ _ _ h=>by simp [evDefer] at h,fun _ _ _ h=>by simp [evDefer] at h⟩
 |.cond _ _ _,_,_,_,_,_=>⟨fun _ _ _ h=>by simp [evDefer] at h,fun _ _ _ h=>by simp [evDefer] at h⟩
 |.block _ _,_,_,_,_,_=>⟨fun _ _ _ h=>by simp [evDefer] at h,fun _ _ _ h=>by simp [evDefer] at h⟩
 |.loop _,_,_,_,_,_=>⟨fun _ _ _ h=>by simp [evDefer] at h,fun _ _ _ h=>by simp [evDefer] at h⟩
 |.rangeFunc _ _ _ _,_,_,_,_,_=>⟨fun _ _ _ h=>by simp [evDefer] at h,fun _ _ _ h=>by simp [evDefer] at h⟩
 |.exit _,_,_,_,_,_=>⟨fun _ _ _ h=>by simp [evDefer] at h,fun _ _ _ h=>by simp [evDefer] at h⟩
 |.scope _,_,_,_,_,_=>⟨fun _ _ _ h=>by simp [evDefer] at h,fun _ _ _ h=>by simp [evDefer] at h⟩
 |.label _,_,_,_,_,_=>⟨fun _ _ _ h=>by simp [evDefer] at h,fun _ _ _ h=>by simp [evDefer] at h⟩
 |.goto _,_,_,_,_,_=>⟨fun _ _ _ h=>by simp [evDefer] at h,fun _ _ _ h=>by simp [evDefer] at h⟩
 |.ret,_,_,_,_,_=>⟨fun _ _ _ h=>by simp [evDefer] at h,fun _ _ _ h=>by simp [evDefer] at h⟩
 |.refuse _,_,_,_,_,_=>⟨fun _ _ _ h=>by simp [evDefer] at h,fun _ _ _ h=>by simp [evDefer] at h⟩
end Go.Proofs.Hk

set_option linter.unusedVariables false
set_option linter.unusedSimpArgs false
namespace Go.Proofs.Hk
open Go
/-! The machine as it is reckoned is sound. -/
theorem dropN_sub (k0:Nat):∀ s:HS,(dropN k0 s).Sublist s
 |[]=>.slnil
 |e::s=>by
  simp only [dropN_cons]
  split
  ·exact (dropN_sub k0 s).cons_cons _
  ·exact (dropN_sub k0 s).cons _
theorem gc_sub (k0 k1:Nat) (x:HV) (s:HS):(gc k0 k1 x s).Sublist s:=by
 unfold gc
 split
 ·exact .refl _
 ·exact dropN_sub _ _
/-- Contracts that are known. -/
def LibOk (c:Cx) (lib:FuncId→List HV→Option LibR):Prop:=
 ∀ f xs,(∀ x,lib f xs=some (.val x)→HCalls c.P f xs [] fun e st=>e = .ret x∧st=[])∧
  (∀ X Y,lib f xs=some (.new X Y)→∀ r,HCalls c.P f xs [(r,.void)] fun e st=>e = .ret (X r)∧st=[(r,Y r)])∧
  (∀ r k,lib f xs=some (.look r k)→∀ y x,k y=some x→HCalls c.P f xs [(r,y)] fun e st=>e = .ret x∧st=[(r,y)])∧
  (∀ r k,lib f xs=some (.turn r k)→∀ y z,k y=some z→HCalls c.P f xs [(r,y)] fun e st=>e = .ret (.tup [])∧st=[(r,z)])∧
  (∀ g,lib f xs=some (.st g)→∀ s x s',g s=some (x,s')→HCalls c.P f xs s fun e st=>e = .ret x∧st=s')
theorem HCalls.more {P:Program} {f:FuncId} {xs:List HV} {s s':HS} {e:HEnd} (h:HCalls P f xs s fun e' st=>e'=e∧st=s') (t:HS):HCalls P f xs (s ++ t) fun e' st=>e'=e∧st=s' ++ t:=
 (h.frame t).mono fun _ _ ⟨s1,e1,e2,e3⟩=>⟨e2,by rw [e1,e3]⟩
theorem HCalls.lessS {P:Program} {f:FuncId} {xs:List HV} {s s' s2:HS} {e:HEnd} (h:HCalls P f xs s fun e' st=>e'=e∧st=s') (p:Subp s2 s'):HCalls P f xs s fun e' st=>e'=e∧st=s2:=
 h.weaken fun e' s1 ⟨e1,e2⟩=>⟨e,s2,by subst e1;exact WeakerE.refl _,e2 ▸ p,rfl,rfl⟩
theorem HCalls.permE {P:Program} {f:FuncId} {xs:List HV} {s s' s2:HS} {e:HEnd} (h:HCalls P f xs s fun e' st=>e'=e∧st=s') (p:s'.Perm s2):HCalls P f xs s fun e' st=>e'=e∧st=s2:=
 h.lessS ⟨s2,p.symm,.refl _⟩
theorem evBody_ok {c:Cx} {rec:Task→HS→Nat→Nat→Nat→Rs} (hrec:CodeOk c rec) {K d:Nat} {f:FuncId} {fn:Func} (hf:c.P.funcs[f]? = some fn) {code:Code} (hb:fn.body=some code) {xs:List HV} (hn:Nat.ble xs.length fn.ntmps=true) (s:HS) (k:Nat) (hk:k≤K) (b:Bool) :
  EndOk c K f xs s k (evBody c rec K d fn xs s k code b):=by
 cases b with
 |true=>
  cases hng:noRng code with
  |false=>exact ⟨fun _ _ _ h=>by (simp only [evBody,hng] at h;cases h),fun _ _ _ h=>by (simp only [evBody,hng] at h;cases h)⟩
  |true=>
  have h:=evDefer_ok (d:=d) (fn:=fn) hrec code (initFr xs 0) s k hng hk
  simp only [evBody,hng]
  refine ⟨fun x s' k' e=>?_,fun x s' k' e=>?_⟩
  ·obtain ⟨h1,h2,h3⟩:=h.1 x s' k' e
   exact ⟨h1,h2,sem_callsD c hf hb hn rfl h3⟩
  ·obtain ⟨h1,h2,h3⟩:=h.2 x s' k' e
   exact ⟨h1,h2,sem_callsD c hf hb hn rfl h3⟩
 |false=>
  refine ⟨fun x s' k' h=>?_,fun x s' k' h=>?_⟩
  ·have h:evAhead c fn (fun a s k=>evFin c fn a s k) (rec (.code fn.ntmps code (initFr xs 0)) s k K d) = .ret x s' k':=h
   cases hr:rec (.code fn.ntmps code (initFr xs 0)) s k K d with
   |out _ _=>rw [hr] at h;cases h
   |ret _ _ _=>rw [hr] at h;cases h
   |pan _ _ _=>rw [hr] at h;cases h
   |ok e a1 s1 k1=>
    rw [hr] at h
    obtain ⟨q1,q2,q3⟩:=hrec _ _ _ _ _ _ _ _ _ _ _ hr hk
    cases e with
    |exit j=>cases h
    |pan v=>cases h
    |normal=>
     have h:evFin c fn a1 s1 k1 = .ret x s' k':=h
     obtain ⟨e1,e2,_⟩:=evFin_ret h
     subst e1 e2
     have hq:=evFin_resQ (t:=V k' K) h (fun e st=>e = .ret x∧st=s' ++ V k' K) ⟨rfl,rfl⟩
     exact ⟨q1,q2,sem_callsM c hf hb hn rfl (q3 _ ⟨hq⟩).2⟩
    |ret=>
     have h:evFin c fn a1 s1 k1 = .ret x s' k':=h
     obtain ⟨e1,e2,_⟩:=evFin_ret h
     subst e1 e2
     have hq:=evFin_resQ (t:=V k' K) h (fun e st=>e = .ret x∧st=s' ++ V k' K) ⟨rfl,rfl⟩
     exact ⟨q1,q2,sem_callsM c hf hb hn rfl (q3 _ ⟨hq⟩).2⟩
  ·have h:evAhead c fn (fun a s k=>evFin c fn a s k) (rec (.code fn.ntmps code (initFr xs 0)) s k K d) = .pan x s' k':=h
   cases hr:rec (.code fn.ntmps code (initFr xs 0)) s k K d with
   |out _ _=>rw [hr] at h;cases h
   |ret _ _ _=>rw [hr] at h;cases h
   |pan _ _ _=>rw [hr] at h;cases h
   |ok e a1 s1 k1=>
    rw [hr] at h
    obtain ⟨q1,q2,q3⟩:=hrec _ _ _ _ _ _ _ _ _ _ _ hr hk
    cases e with
    |exit j=>cases h
    |pan v=>
     have h:Rs.pan v s1 k1 = .pan x s' k':=h
     injection h with e1 e2 e3
     subst e1 e2 e3
     exact ⟨q1,q2,sem_callsM c hf hb hn rfl (q3 _ ⟨⟨rfl,rfl⟩⟩).2⟩
    |normal=>exact (evFin_pan (show evFin c fn a1 s1 k1 = .pan x s' k' from h)).elim
    |ret=>exact (evFin_pan (show evFin c fn a1 s1 k1 = .pan x s' k' from h)).elim
theorem evCall_ok {c:Cx} {rec:Task→HS→Nat→Nat→Nat→Rs} (hrec:CodeOk c rec) {lib:FuncId→List HV→Option LibR} (hlib:LibOk c lib) (K d:Nat):CallOk c K (fun f xs s k=>evCall c rec K d lib f xs s k):=by
 intro f xs s k hk
 have key:EndOk c K f xs s k (evCall c rec K d lib f xs s k):=by
  unfold evCall
  cases hl:lib f xs with
  |some r=>
   cases r with
   |val x=>
    refine ⟨fun y s' k' h=>?_,fun y s' k' h=>by cases h⟩
    have h:Rs.ret x s k = .ret y s' k':=h
    injection h with e1 e2 e3
    subst e1 e2 e3
    exact ⟨Nat.le_refl _,hk,((hlib f xs).1 x hl).more _⟩
   |new X Y=>
    simp only
    cases hb:Nat.blt k K with
    |false=>exact ⟨fun _ _ _ h=>(by cases h),fun _ _ _ h=>(by cases h)⟩
    |true=>
     have hlt:=blt_iff.1 hb
     simp only [forceN_eq]
     refine ⟨fun y s' k' h=>?_,fun y s' k' h=>by cases h⟩
     injection h with e1 e2 e3
     subst e1 e2 e3
     refine ⟨by omega,hlt,?_⟩
     rw [V_cons hlt]
     have:=((hlib f xs).2.1 X Y hl k).more (s ++ V (k+1) K)
     exact HCalls.perm List.perm_middle.symm this
   |look r q=>
    refine ⟨fun z s' k' h=>?_,fun z s' k' h=>?_⟩<;>simp only at h<;>split at h<;>(first|(cases h;done)|skip)<;>rename_i y hy<;>split at h<;>(first|(cases h;done)|skip)
    rename_i x hx
    injection h with e1 e2 e3
    subst e1 e2 e3
    refine ⟨Nat.le_refl _,hk,?_⟩
    have:=((hlib f xs).2.2.1 r q hl y x hx).more (serase s r ++ V k K)
    have p:([(r,y)] ++ (serase s r ++ V k K)).Perm (s ++ V k K):=(List.Perm.append_right _ (serase_perm hy).symm)
    exact (HCalls.perm p this).permE p
   |turn r q=>
    cases hy:sget s r with
    |none=>exact ⟨fun _ _ _ h=>by (simp only [hy] at h;cases h),fun _ _ _ h=>by (simp only [hy] at h;cases h)⟩
    |some y=>
     cases hx:q y with
     |none=>exact ⟨fun _ _ _ h=>by (simp only [hy,hx] at h;cases h),fun _ _ _ h=>by (simp only [hy,hx] at h;cases h)⟩
     |some x=>
      refine ⟨fun z s' k' h=>?_,fun z s' k' h=>by (simp only [hy,hx,forceL_eq] at h;cases h)⟩
      simp only [hy,hx,forceL_eq] at h
      injection h with e1 e2 e3
      subst e1 e2 e3
      refine ⟨Nat.le_refl _,hk,?_⟩
      have:=((hlib f xs).2.2.2.1 r q hl y x hx).more (serase s r ++ V k K)
      have p:([(r,y)] ++ (serase s r ++ V k K)).Perm (s ++ V k K):=(List.Perm.append_right _ (serase_perm hy).symm)
      have p2:([(r,x)] ++ (serase s r ++ V k K)).Perm (sset s r x ++ V k K):=(List.Perm.append_right _ (sset_perm hy).symm)
      exact (HCalls.perm p this).permE p2
   |st g=>
    cases hg:g s with
    |none=>exact ⟨fun _ _ _ h=>by (simp only [hg] at h;cases h),fun _ _ _ h=>by (simp only [hg] at h;cases h)⟩
    |some p=>
     obtain ⟨x,s1⟩:=p
     refine ⟨fun z s' k' h=>?_,fun z s' k' h=>by (simp only [hg,forceL_eq] at h;cases h)⟩
     simp only [hg,forceL_eq] at h
     injection h with e1 e2 e3
     subst e1 e2 e3
     exact ⟨Nat.le_refl _,hk,((hlib f xs).2.2.2.2 g hl s x s1 hg).more _⟩
  |none=>
   simp only
   cases hf:c.P.funcs[f]? with
   |none=>exact ⟨fun _ _ _ h=>(by cases h),fun _ _ _ h=>(by cases h)⟩
   |some fn=>
    simp only [evFn]
    cases hb:fn.body with
    |none=>exact ⟨fun _ _ _ h=>(by cases h),fun _ _ _ h=>(by cases h)⟩
    |some code=>
     simp only
     cases hn:Nat.ble xs.length fn.ntmps with
     |false=>exact ⟨fun _ _ _ h=>(by cases h),fun _ _ _ h=>(by cases h)⟩
     |true=>
      simp only
      have hB:=evBody_ok (d:=d) hrec hf hb hn s k hk (hasDefer code)
      refine ⟨fun y s' k' h=>?_,fun y s' k' h=>?_⟩
      ·cases hr:evBody c rec K d fn xs s k code (hasDefer code) with
       |out _ _=>rw [hr] at h;cases h
       |ok _ _ _ _=>rw [hr] at h;cases h
       |pan _ _ _=>rw [hr] at h;cases h
       |ret x1 s1 k1=>
        rw [hr] at h
        simp only [evRet,forceL_eq] at h
        injection h with e1 e2 e3
        subst e1 e2 e3
        obtain ⟨h1,h2,h3⟩:=hB.1 _ _ _ hr
        exact ⟨h1,h2,h3.lessS (Sb.app (.of_sublist (gc_sub _ _ _ _)) (.refl _)).subp⟩
      ·cases hr:evBody c rec K d fn xs s k code (hasDefer code) with
       |out _ _=>rw [hr] at h;cases h
       |ok _ _ _ _=>rw [hr] at h;cases h
       |ret _ _ _=>rw [hr] at h;simp only [evRet,forceL_eq] at h;cases h
       |pan x1 s1 k1=>
        rw [hr] at h
        have h:Rs.pan x1 s1 k1 = .pan y s' k':=h
        injection h with e1 e2 e3
        subst e1 e2 e3
        exact hB.2 _ _ _ hr
 exact key
/-! What has no name is told of whatever memory. -/
mutual
theorem nameless_rel {G H:Ghost} (hG:∀ b o v,G.K b o=some v→H.K b o=some v):∀ (x:HV) (cs:List Value),nameless x=true→relC G x cs→relC H x cs
 |.v x,cs,_,h=>by simpa only [relC] using h
 |.agg l,cs,hn,h=>by simp only [relC] at h ⊢;exact nameless_rels hG l cs hn h
 |.tup l,cs,hn,h=>by
  simp only [relC] at h ⊢
  obtain ⟨us,e,h⟩:=h
  exact ⟨us,e,nameless_relVs hG l _ hn h⟩
 |.list t sz l,cs,hn,h=>by
  simp only [relC] at h ⊢
  have hl:namelessL l=true∧(t = .no∨t = .full):=by
   cases t with
   |no=>exact ⟨hn,.inl rfl⟩
   |full=>exact ⟨hn,.inr rfl⟩
   |own i st=>cases hn
  rcases h with ⟨e,e',h⟩|⟨b,o,c,e,hc,h,ht⟩|h
  ·refine .inl ⟨e,e',?_⟩
   rcases hl.2 with rfl|rfl<;>exact h
  ·refine .inr (.inl ⟨b,o,c,e,hc,nameless_relAts hG l _ _ (hG b) _ _ hl.1 h,?_⟩)
   rcases hl.2 with rfl|rfl<;>exact ht
  ·exact .inr (.inr h)
 |.ptr r off,cs,hn,h=>by cases hn
 |.cptr x,cs,hn,h=>by
  simp only [relC] at h ⊢
  obtain ⟨b,o,xs,e,hk,hx,h⟩:=h
  refine ⟨b,o,xs,e,hk,fun j hj=>?_,nameless_rel hG x xs hn h⟩
  have:=hx j hj
  rw [List.getElem?_eq_getElem hj] at this ⊢
  exact hG _ _ _ this
 |.fn f fi ca,cs,hn,h=>by
  simp only [relC] at h ⊢
  obtain ⟨a,b,e,h1,h2⟩:=h
  have hn:(match namelessL fi with|true=>namelessL ca|false=>false)=true:=hn
  cases hfi:namelessL fi with
  |false=>rw [hfi] at hn;cases hn
  |true=>
   rw [hfi] at hn
   exact ⟨a,b,e,nameless_relVs hG fi _ hfi h1,nameless_relVs hG ca _ hn h2⟩
 |.map r,cs,hn,h=>by cases hn
 |.arr r off len cap sz,cs,hn,h=>by cases hn
 |.iface t x,cs,hn,h=>by
  simp only [relC] at h ⊢
  obtain ⟨u,e,ha,h⟩:=h
  exact ⟨u,e,ha,nameless_rel hG x _ hn h⟩
theorem nameless_rels {G H:Ghost} (hG:∀ b o v,G.K b o=some v→H.K b o=some v):∀ (l:List HV) (cs:List Value),namelessL l=true→relCs G l cs→relCs H l cs
 |[],cs,_,h=>by simpa only [relCs] using h
 |x::xs,cs,hn,h=>by
  simp only [relCs] at h ⊢
  obtain ⟨u,us,e,⟨h0,h1⟩,h2⟩:=h
  have hn:(match nameless x with|true=>namelessL xs|false=>false)=true:=hn
  cases hx:nameless x with
  |false=>rw [hx] at hn;cases hn
  |true=>
   rw [hx] at hn
   exact ⟨u,us,e,⟨h0,nameless_rel hG x _ hx h1⟩,nameless_rels hG xs _ hn h2⟩
theorem nameless_relVs {G H:Ghost} (hG:∀ b o v,G.K b o=some v→H.K b o=some v):∀ (l:List HV) (us:List Value),namelessL l=true→relVs G l us→relVs H l us
 |[],us,_,h=>by simpa only [relVs] using h
 |x::xs,us,hn,h=>by
  simp only [relVs] at h ⊢
  obtain ⟨u,us',e,⟨h0,h1⟩,h2⟩:=h
  have hn:(match nameless x with|true=>namelessL xs|false=>false)=true:=hn
  cases hx:nameless x with
  |false=>rw [hx] at hn;cases hn
  |true=>
   rw [hx] at hn
   exact ⟨u,us',e,⟨h0,nameless_rel hG x _ hx h1⟩,nameless_relVs hG xs _ hn h2⟩
theorem nameless_relAts {G H:Ghost} (hG:∀ b o v,G.K b o=some v→H.K b o=some v):∀ (l:List HV) (rd rd':Nat→Option Value) (_:∀ o v,rd o=some v→rd' o=some v) (o sz:Nat),namelessL l=true→relAts G l rd o sz→relAts H l rd' o sz
 |[],_,_,_,_,_,_,_=>by simp only [relAts]
 |x::xs,rd,rd',hr,o,sz,hn,h=>by
  simp only [relAts] at h ⊢
  obtain ⟨⟨cs,hs,hk,hx,h1⟩,h2⟩:=h
  have hn:(match nameless x with|true=>namelessL xs|false=>false)=true:=hn
  cases hx':nameless x with
  |false=>rw [hx'] at hn;cases hn
  |true=>
   rw [hx'] at hn
   refine ⟨⟨cs,hs,hk,fun j hj=>?_,nameless_rel hG x _ hx' h1⟩,nameless_relAts hG xs rd rd' hr _ _ hn h2⟩
   have:=hx j hj
   rw [List.getElem?_eq_getElem (by omega)] at this ⊢
   exact hr _ _ this
end
/-- A ghost that knows frozen cells alone. -/
def Ghost.bare (G:Ghost) (K:Nat):Ghost:={ K:=G.K,om:=fun _=>none,top:=fun _=>none,role:=fun _=>none,lim:=K,df:=G.df}
theorem closed_calls {c:Cx} {f:FuncId} {xs:List HV} {x:HV} {j K:Nat} (h:HCalls c.P f xs ([] ++ V 0 K) fun e st=>e = .ret x∧st=[] ++ V j K) (hxs:namelessL xs=true) (hx:nameless x=true):Pur c f xs x:=by
 refine ⟨⟨fun G w vs hs hargs=>?_⟩⟩
 have hV:SRel (G.bare K) ([] ++ V 0 K) w:=by
  refine ⟨hs.kw,?_,fun r y hy=>?_,fun r hr=>⟨rfl,rfl⟩,fun b r e=>by cases e⟩
  ·simp only [List.nil_append,keys,V,List.map_map]
   have:((fun x=>x.1) ∘ fun r=>(r,Res.void))=(id:Nat→Nat):=rfl
   rw [this,List.map_id]
   exact List.nodup_range'
  ·simp only [List.nil_append,V,List.mem_map] at hy
   obtain ⟨q,hq,e⟩:=hy
   cases e
   have:=List.mem_range'_1.1 hq
   exact ⟨by show r < K;omega,rfl,rfl,fun b=>by simp [Ghost.bare]⟩
 refine (h.out (G.bare K) w vs hV (nameless_relVs (G:=G) (H:=G.bare K) (fun b o v e=>e) xs _ hxs hargs)).mono fun e w' ⟨he,s',G',⟨e1,e2⟩,hrel,hp⟩=>?_
 subst e1 e2
 have hrel:endRel G' (.ret x) e:=hrel
 cases e<;>first|exact hrel.elim|skip
 rename_i u
 have hKK:∀ b o v,G.K b o=some v→G'.K b o=some v:=fun b o v e=>hp.ext.le.K b o v e
 refine ⟨.ret x,[],{ G with K:=G'.K},⟨rfl,rfl⟩,⟨hrel.1,nameless_rel (G:=G') (H:={ G with K:=G'.K}) (fun b o v e=>e) x _ hx hrel.2⟩,?_⟩
 refine ⟨⟨hp.srel.kw,by simp [keys],fun r y hy=>(by cases hy),hs.fresh,fun b r e=>⟨Nat.lt_of_lt_of_le (hs.role b r e).1 hp.ext.size,(hs.role b r e).2⟩⟩,
  ⟨⟨hKK,fun _ _ e=>e,fun _ t e=>⟨t,e,Nat.le_refl _,fun _=>rfl⟩,rfl⟩,hp.ext.size,fun b hb _=>?_,fun _ _ e _=>e,Nat.le_refl _,hp.ext.os,hp.ext.tape,hp.ext.output,fun _ _ _ h1 h2 h3=>⟨h1,h2,h3⟩⟩,fun r hr=>by cases hr⟩
 obtain ⟨h1,_,h3⟩:=hp.ext.blocks b hb (fun r e=>by cases e)
 exact ⟨h1,rfl,h3⟩
theorem run_succ (c:Cx) (lib:FuncId→List HV→Option LibR) (m:Nat) (t:Task) (s:HS) (k K d:Nat):run c lib (m+1) t s k K d=evStep c lib (run c lib m) t s k K d:=rfl
theorem run_ok (c:Cx) (lib:FuncId→List HV→Option LibR) (hlib:LibOk c lib):∀ m,RecOk c (run c lib m):=by
 intro m
 induction m using Nat.strongRecOn with
 |_ m ih=>
 cases m with
 |zero=>exact ⟨fun n code a s k K d e a' s' k' h=>(by cases h),fun K d f xs s k hk=>⟨fun x s' k' h=>(by cases h),fun x s' k' h=>(by cases h)⟩⟩
 |succ m=>
 obtain ⟨hC,hF⟩:=ih m (Nat.lt_succ_self m)
 refine ⟨fun n code a s k K d e a' s' k' h hk=>?_,fun K d=>?_⟩
 rotate_left
 ·exact evCall_ok hC hlib K d
 cases code with
 |skip=>
  have h:Rs.ok .normal a s k = .ok e a' s' k':=h
  injection h with e1 e2 e3 e4
  subst e1 e2 e3 e4
  exact ⟨Nat.le_refl _,hk,fun Q q=>.of (sem_skip q)⟩
 |label l=>
  have h:Rs.ok .normal a s k = .ok e a' s' k':=h
  injection h with e1 e2 e3 e4
  subst e1 e2 e3 e4
  exact ⟨Nat.le_refl _,hk,fun Q q=>.of (sem_label q)⟩
 |exit id=>
  have h:Rs.ok (.exit id) a s k = .ok e a' s' k':=h
  injection h with e1 e2 e3 e4
  subst e1 e2 e3 e4
  exact ⟨Nat.le_refl _,hk,fun Q q=>.of (sem_exit q)⟩
 |ret=>
  have h:Rs.ok .ret a s k = .ok e a' s' k':=h
  injection h with e1 e2 e3 e4
  subst e1 e2 e3 e4
  exact ⟨Nat.le_refl _,hk,fun Q q=>.of (sem_ret q)⟩
 |goto l=>cases h
 |refuse w=>cases h
 |rangeFunc f ps x y=>
  have h:evRange c (run c lib m) K d n ps x y a s k (cev a f) = .ok e a' s' k':=h
  unfold evRange at h
  split at h
  ·rename_i g fi ca hf
   rw [←cev_eq] at hf
   cases hb:c.fn g && Nat.blt k K with
   |false=>rw [hb] at h;cases h
   |true=>
    rw [hb] at h
    simp only [Bool.and_eq_true] at hb
    have hlt:=blt_iff.1 hb.2
    simp only [forceN_eq,forceL_eq] at h
    have hcall:=hF K d g (fi ++ .yld k::ca) ((k,.loop ⟨n,a,ps,x,y,false,none⟩)::s) (k+1) hlt
    unfold evRangeEnd at h
    split at h
    ·rename_i z s1 k1 hr
     obtain ⟨q1,q2,q3⟩:=hcall.1 _ _ _ hr
     split at h
     ·rename_i L hL
      have fin:∀ Q:HExit→Fr→HS→Prop,rangeQ k Q a L (serase s1 k ++ V k1 K)→SemM c.P n (.rangeFunc f ps x y) Q a (s ++ V k K):=fun Q hQ=>by
       rw [V_cons hlt]
       refine SemM.permd (List.perm_middle.symm:((k,Res.void)::(s ++ V (k+1) K)).Perm _) (SemM.range hf hb.1 ?_)
       have e1:fi ++ [HV.yld k] ++ ca=fi ++ .yld k::ca:=by simp
       rw [e1]
       exact q3.mono fun e st ⟨g1,g2⟩=>⟨z,L,_,g1,by rw [g2];exact (List.Perm.append_right _ (serase_perm hL)).trans (by simp),hQ⟩
      unfold evRangeFin at h
      split at h
      ·cases h
      ·rename_i hbz
       split at h<;>(first|(cases h;done)|skip)
       all_goals
        rename_i hpd
        rw [forceL_eq] at h
        injection h with e1 e2 e3 e4
        subst e1 e2 e3 e4
        exact ⟨by omega,q2,fun Q q=>⟨fun hn=>(by cases hn),fin Q ⟨hbz,by rw [hpd];exact q⟩⟩⟩
     ·cases h
    ·cases h
    ·cases h
  ·cases h
 |scope b=>
  obtain ⟨h1,h2,h3⟩:=hC _ _ _ _ _ _ _ _ _ _ _ (show run c lib m (.code n b a) s k K d = .ok e a' s' k' from h) hk
  exact ⟨h1,h2,fun Q q=>⟨fun hn=>sem_scope ((h3 Q q).1 hn),.scope (h3 Q q).2⟩⟩
 |seq x y=>
  have h:evSeq (run c lib m) K d n y (run c lib m (.code n x a) s k K d) = .ok e a' s' k':=h
  unfold evSeq at h
  split at h
  ·rename_i a1 s1 k1 hr
   obtain ⟨h1,h2,h3⟩:=hC _ _ _ _ _ _ _ _ _ _ _ hr hk
   obtain ⟨g1,g2,g3⟩:=hC _ _ _ _ _ _ _ _ _ _ _ h h2
   exact ⟨by omega,g2,fun Q q=>⟨fun hn=>.seq ((h3 _ ((g3 Q q).1 (and_r hn))).1 (and_l hn)),.seq (h3 _ (g3 Q q).2).2⟩⟩
  ·rename_i hne
   obtain ⟨h1,h2,h3⟩:=hC _ _ _ _ _ _ _ _ _ _ _ h hk
   refine ⟨h1,h2,fun Q q=>⟨fun hn=>.seq ((h3 _ ?_).1 (and_l hn)),.seq (h3 _ ?_).2⟩⟩<;>
   ·cases e with
    |normal=>exact (hne _ _ _ h).elim
    |exit i=>exact q
    |ret=>exact q
    |pan v=>exact q
 |cond t x y=>
  have h:evCond (run c lib m) K d n x y a s k (cev a t) = .ok e a' s' k':=h
  unfold evCond at h
  split at h
  ·rename_i b hb
   rw [←cev_eq] at hb
   cases b with
   |true=>
    obtain ⟨h1,h2,h3⟩:=hC _ _ _ _ _ _ _ _ _ _ _ h hk
    exact ⟨h1,h2,fun Q q=>⟨fun hn=>sem_cond hb (br_true rfl ((h3 Q q).1 (and_l hn))),.cond hb (h3 Q q).2⟩⟩
   |false=>
    obtain ⟨h1,h2,h3⟩:=hC _ _ _ _ _ _ _ _ _ _ _ h hk
    exact ⟨h1,h2,fun Q q=>⟨fun hn=>sem_cond hb (br_false rfl ((h3 Q q).1 (and_r hn))),.cond hb (h3 Q q).2⟩⟩
  ·cases h
 |block id b=>
  have h:evBlock id (run c lib m (.code n b a) s k K d) = .ok e a' s' k':=h
  unfold evBlock at h
  split at h
  ·rename_i j a1 s1 k1 hr
   obtain ⟨h1,h2,h3⟩:=hC _ _ _ _ _ _ _ _ _ _ _ hr hk
   cases hj:Nat.beq j id with
   |true=>
    rw [hj] at h
    injection h with e1 e2 e3 e4
    subst e1 e2 e3 e4
    exact ⟨h1,h2,fun Q q=>⟨fun hn=>sem_block ((h3 _ (hinBlock.here hj q)).1 hn),.block (h3 _ (hinBlock.here hj q)).2⟩⟩
   |false=>
    rw [hj] at h
    injection h with e1 e2 e3 e4
    subst e1 e2 e3 e4
    exact ⟨h1,h2,fun Q q=>⟨fun hn=>sem_block ((h3 _ (hinBlock.on hj q)).1 hn),.block (h3 _ (hinBlock.on hj q)).2⟩⟩
  ·rename_i hne
   obtain ⟨h1,h2,h3⟩:=hC _ _ _ _ _ _ _ _ _ _ _ h hk
   refine ⟨h1,h2,fun Q q=>⟨fun hn=>sem_block ((h3 _ ?_).1 hn),.block (h3 _ ?_).2⟩⟩<;>
   ·cases e with
    |normal=>exact q
    |exit i=>exact (hne _ _ _ _ h).elim
    |ret=>exact q
    |pan v=>exact q
 |region id ops draw=>
  have h:evReg c (run c lib m) K d n ops a s k draw = .ok e a' s' k':=h
  cases draw with
  |false=>
   have hcod:CodOk c K (fun n code a s k=>run c lib m (.code n code a) s k K d):=fun n code a s k e a' s' k' h hk hd=>by
    obtain ⟨h1,h2,h3⟩:=hC _ _ _ _ _ _ _ _ _ _ _ h hk
    exact ⟨h1,h2,fun Q q=>(h3 Q q).1 (noDef_noRng hd)⟩
   obtain ⟨h1,h2,h3⟩:=evOps_ok hcod (hF K d) ops.toList a s k e a' s' k' h hk
   exact ⟨h1,h2,fun Q q=>.of (h3 Q q).sem⟩
  |true=>
   have hp:PureOk c (fun f xs=>run c lib m (.call f xs) [] 0 (2 ^ (24 * d)) d):=fun f xs x j hr hxs hx=>by
    obtain ⟨_,_,h3⟩:=(hF (2 ^ (24 * d)) d f xs [] 0 (Nat.zero_le _)).1 _ _ _ hr
    exact closed_calls h3 hxs hx
   obtain ⟨h1,h2,h3⟩:=evDraw_ok (fun K d=>hF K d) hp h hk
   exact ⟨h1,h2,fun Q q=>.of (h3 Q id q)⟩
 |loop b=>
  have key:∀ j,j≤m+1→∀ a0 s0 k0,run c lib j (.code n (.loop b) a0) s0 k0 K d = .ok e a' s' k'→k0≤K→k0≤k'∧k'≤K:=by
   intro j
   induction j with
   |zero=>intro _ a0 s0 k0 h;cases h
   |succ j ihj=>
    intro hj a0 s0 k0 h hk0
    have h:evLoop (run c lib j) K d n b a0 (run c lib j (.code n b a0) s0 k0 K d) = .ok e a' s' k':=h
    have hCj:=(ih j (by omega)).1
    unfold evLoop at h
    split at h
    ·rename_i a1 s1 k1 hr
     rw [forceL_eq] at h
     obtain ⟨h1,h2,_⟩:=hCj _ _ _ _ _ _ _ _ _ _ _ hr hk0
     obtain ⟨g1,g2⟩:=ihj (by omega) _ _ _ h h2
     exact ⟨by omega,g2⟩
    ·obtain ⟨h1,h2,_⟩:=hCj _ _ _ _ _ _ _ _ _ _ _ h hk0
     exact ⟨h1,h2⟩
  obtain ⟨m1,m2⟩:=key (m+1) (Nat.le_refl _) a s k h hk
  refine ⟨m1,m2,fun Q q=>⟨fun hn=>?_,?_⟩⟩
  ·refine SemWp.loop (fun j a2 s2=>j≤m+1∧∃ a0 s0 k0,a0.Sub a2∧s2=s0 ++ V k0 K∧k0≤K∧run c lib j (.code n (.loop b) a0) s0 k0 K d = .ok e a' s' k') (m+1) ⟨Nat.le_refl _,a,s,k,Sub.refl a,rfl,hk,h⟩ ?_
   rintro j a2 s2 ⟨hj,a0,s0,k0,hsub,rfl,hk0,hrun⟩
   cases j with
   |zero=>cases hrun
   |succ j=>
    have h:evLoop (run c lib j) K d n b a0 (run c lib j (.code n b a0) s0 k0 K d) = .ok e a' s' k':=hrun
    have hCj:=(ih j (by omega)).1
    refine SemWp.forget ?_ hsub
    unfold evLoop at h
    split at h
    ·rename_i a1 s1 k1 hr
     rw [forceL_eq] at h
     obtain ⟨h1,h2,h3⟩:=hCj _ _ _ _ _ _ _ _ _ _ _ hr hk0
     exact (h3 _ ⟨j,Nat.lt_succ_self j,by omega,_,s1,k1,refresh_sub _ _,rfl,h2,h⟩).1 hn
    ·rename_i hne
     obtain ⟨h1,h2,h3⟩:=hCj _ _ _ _ _ _ _ _ _ _ _ h hk0
     refine (h3 _ ?_).1 hn
     cases e with
     |normal=>exact (hne _ _ _ h).elim
     |exit i=>exact q
     |ret=>exact q
     |pan v=>exact q
  ·refine SemM.loop (fun j a2 s2=>j≤m+1∧∃ a0 s0 k0,a0.Sub a2∧s2=s0 ++ V k0 K∧k0≤K∧run c lib j (.code n (.loop b) a0) s0 k0 K d = .ok e a' s' k') (m+1) ⟨Nat.le_refl _,a,s,k,Sub.refl a,rfl,hk,h⟩ ?_
   rintro j a2 s2 ⟨hj,a0,s0,k0,hsub,rfl,hk0,hrun⟩
   cases j with
   |zero=>cases hrun
   |succ j=>
    have h:evLoop (run c lib j) K d n b a0 (run c lib j (.code n b a0) s0 k0 K d) = .ok e a' s' k':=hrun
    have hCj:=(ih j (by omega)).1
    refine SemM.forget ?_ hsub
    unfold evLoop at h
    split at h
    ·rename_i a1 s1 k1 hr
     rw [forceL_eq] at h
     obtain ⟨h1,h2,h3⟩:=hCj _ _ _ _ _ _ _ _ _ _ _ hr hk0
     exact (h3 _ ⟨j,Nat.lt_succ_self j,by omega,_,s1,k1,refresh_sub _ _,rfl,h2,h⟩).2
    ·rename_i hne
     obtain ⟨h1,h2,h3⟩:=hCj _ _ _ _ _ _ _ _ _ _ _ h hk0
     refine (h3 _ ?_).2
     cases e with
     |normal=>exact (hne _ _ _ h).elim
     |exit i=>exact q
     |ret=>exact q
     |pan v=>exact q
/-- A call without a name, reckoned. -/
def isRet (x:HV):Rs→Bool
 |.ret y s _=>true
 |_=>false
theorem run_pur {c:Cx} {lib:FuncId→List HV→Option LibR} (hlib:LibOk c lib) (m K d:Nat) {f:FuncId} {xs:List HV} {x:HV} {s:HS} {j:Nat} (h:run c lib m (.call f xs) [] 0 K d = .ret x s j) (hxs:namelessL xs=true) (hx:nameless x=true):Pur c f xs x:=by
 obtain ⟨_,_,h3⟩:=((run_ok c lib hlib m).2 K d f xs [] 0 (Nat.zero_le _)).1 _ _ _ h
 exact closed_calls (j:=j) (h3.lessS ⟨s ++ V j K,.refl _,by simp⟩) hxs hx
theorem run_pan {c:Cx} {lib:FuncId→List HV→Option LibR} (hlib:LibOk c lib) (m K d:Nat) {f:FuncId} {xs:List HV} {x:HV} {s:HS} {j:Nat} (h:run c lib m (.call f xs) [] 0 K d = .pan x s j):HCalls c.P f xs ([] ++ V 0 K) fun e st=>e = .pan x∧st=s ++ V j K:=
 (((run_ok c lib hlib m).2 K d f xs [] 0 (Nat.zero_le _)).2 _ _ _ h).2.2
end Go.Proofs.Hk

set_option linter.unusedVariables false
set_option linter.unusedSimpArgs false
namespace Go.Proofs.Hk
open Go
noncomputable section
/-! A strings.Builder: what its functions come to, as far as they are not walked. -/
def consU (b:UInt8) (q:Option (List UInt8)):Option (List UInt8):=
 match q with
 |some l=>some (b::l)
 |none=>none
def u8Of (x:HV) (q:Option (List UInt8)):Option (List UInt8):=
 match x with
 |.v (.int .u8 (.ofNat k))=>match Nat.blt k 256 with
  |true=>consU (UInt8.ofNat k) q
  |false=>none
 |_=>none
def u8s (l:List HV):Option (List UInt8):=List.rec (some []) (fun x _ ih=>u8Of x ih) l
theorem u8s_ok {G:Ghost} : ∀ {l:List HV} {bs:List UInt8} {us:List Value},u8s l=some bs→relCs G l us→us=bs.map (fun b=>Value.int .u8 b.toNat)∧bs.length=l.length
 |[],bs,us,h,hr=>by
  have h:some []=some bs:=h
  cases h
  simp only [relCs] at hr
  subst hr
  exact ⟨rfl,rfl⟩
 |x::l,bs,us,h,hr=>by
  change u8Of x (u8s l)=some bs at h
  unfold u8Of at h
  split at h
  ·rename_i k
   split at h
   ·rename_i hk
    have hk:k < 256:=by simpa using hk
    unfold consU at h
    split at h
    ·rename_i bs' hb
     cases h
     simp only [relCs] at hr
     obtain ⟨u,us',rfl,⟨_,h1⟩,h2⟩:=hr
     simp only [relC] at h1
     obtain ⟨h1,_⟩:=h1
     obtain ⟨e1,e2⟩:=u8s_ok hb h2
     refine ⟨?_,by simp [e2]⟩
     simp only [List.cons.injEq,and_true] at h1
     subst h1
     rw [List.map_cons,←e1]
     congr 2
     show (Int.ofNat k)=((UInt8.ofNat k).toNat:Int)
     have:(UInt8.ofNat k).toNat=k:=by simp [UInt8.toNat_ofNat'];omega
     rw [this]
     rfl
    ·cases h
   ·cases h
  ·cases h
def ccP (r:Nat) (p v:HV) (t:TypeId):Option Res:=
 match p with
 |.v (.pointer none)=>some (.cells [.ptr r 0,v] t)
 |.ptr r' 0=>match Nat.beq r' r with
  |true=>some (.cells [.ptr r 0,v] t)
  |false=>none
 |_=>none
def ccT (T:TypeId) (r:Nat) (y:Res):Option Res:=
 match y with
 |.cells [p,v] t=>match Nat.beq t T && kdOne v with
  |true=>ccP r p v t
  |false=>none
 |_=>none
def libCC (T:TypeId) (xs:List HV):Option LibR:=
 match xs with
 |[.ptr r 0]=>some (.turn r (ccT T r))
 |_=>none
def strBytes (s:HS) (q:Nat) (x:Option (List UInt8)):Option (HV × HS):=
 match x with
 |some l=>some (.v (.string ⟨⟨l⟩⟩),serase s q)
 |none=>none
def strRow (E:TypeId) (s:HS) (q n:Nat) (y:Res):Option (HV × HS):=
 match y with
 |.row cs 1 e=>match Nat.beq e E && Nat.blt 0 n && Nat.ble n cs.length && Nat.ble n 140737488355328 with
  |true=>strBytes s q (u8s (cs.take n))
  |false=>none
 |_=>none
def strV (E:TypeId) (s:HS) (v:HV):Option (HV × HS):=
 match v with
 |.v (.slice none 0 0)=>some (.v (.string ⟨#[]⟩),s)
 |.row q n 1=>match sget s q with
  |some y=>strRow E s q n y
  |none=>none
 |_=>none
def strT (T E:TypeId) (r:Nat) (s:HS):Option (HV × HS):=
 match sget s r with
 |some (.cells [p,v] t)=>match Nat.beq t T with
  |true=>strV E s v
  |false=>none
 |_=>none
def libStr (T E:TypeId) (xs:List HV):Option LibR:=
 match xs with
 |[.ptr r 0]=>some (.st (strT T E r))
 |_=>none
section
variable {c:Cx} {f:FuncId} {T E:TypeId}
theorem arg_ptr {G:Ghost} {r:Nat} {vs:Array Value} (h:relVs G [.ptr r 0] vs.toList):∃ b,G.om r=some b∧vs = #[.pointer (some ⟨b,0,none⟩)]:=by
 simp only [relVs_cons,relVs] at h
 obtain ⟨u,l,e1,h1,e2⟩:=h
 subst e2
 obtain ⟨b,hb,rfl⟩:=rel_ptr h1
 exact ⟨b,hb,by rw [←Array.toArray_toList (xs:=vs),e1]⟩
theorem cc_ok (used:∀ (b:Nat) (w:World),w.cell? ⟨b,0,none⟩=some (.pointer (some ⟨b,0,none⟩))→Calls c.P f #[.pointer (some ⟨b,0,none⟩)] w fun e w'=>e = .returned (.tuple #[])∧w'=w)
  (fresh:∀ (b:Nat) (w:World),w.cell? ⟨b,0,none⟩=some (.pointer none)→w.shape? b=some (T,2)→w.frozen? ⟨b,0,none⟩=false→Calls c.P f #[.pointer (some ⟨b,0,none⟩)] w fun e w'=>e = .returned (.tuple #[])∧w'=w.setCell ⟨b,0,none⟩ (.pointer (some ⟨b,0,none⟩)))
  {r:Nat} {y z:Res} (h:ccT T r y=some z):HCalls c.P f [.ptr r 0] [(r,y)] fun e st=>e = .ret (.tup [])∧st=[(r,z)]:=by
 unfold ccT at h
 split at h
 ·rename_i p v t
  split at h
  ·rename_i hc
   simp only [Bool.and_eq_true] at hc
   obtain ⟨ht,hv⟩:=hc
   have ht:=Nat.eq_of_beq_eq_true ht
   subst ht
   have hv:=kdOne_eq hv
   refine ⟨fun G w vs hs ha=>?_⟩
   obtain ⟨b,hb,rfl⟩:=arg_ptr ha
   obtain ⟨b',cur,hb',ro,hh,hcs,hK⟩:=hs.holds r _ List.mem_cons_self
   rw [hb] at hb'
   cases hb'
   obtain ⟨u,v',rfl,h1,h2⟩:=relCs2 hcs
   have hc0:w.cell? ⟨b,0,none⟩=some u:=by simp [World.cell?,hh]
   unfold ccP at h
   split at h
   ·cases h
    have h1:=rel_v_eq h1
    subst h1
    refine (fresh b w hc0 (by simp [World.shape?,hh]) (by simp [World.frozen?,hh])).mono fun e w' ⟨he,hw⟩=>?_
    subst he hw
    exact ⟨.ret (.tup []),_,G,⟨rfl,rfl⟩,(show rel G (.tup []) (.tuple [].toArray) from tup_rel (by simp [relVs])),used_post hs hb ro hh h2 hv hK⟩
   ·rename_i r'
    split at h
    ·rename_i hr
     have hr:=Nat.eq_of_beq_eq_true hr
     subst hr
     cases h
     obtain ⟨b',hb',rfl⟩:=rel_ptr h1
     rw [hb] at hb'
     cases hb'
     refine (used b w hc0).mono fun e w' ⟨he,hw⟩=>?_
     subst he hw
     exact ⟨.ret (.tup []),_,G,⟨rfl,rfl⟩,(show rel G (.tup []) (.tuple [].toArray) from tup_rel (by simp [relVs])),.refl hs⟩
    ·cases h
   ·cases h
  ·cases h
 ·cases h
theorem str_ok (nil:∀ (b:Nat) (p:Value) (w:World),w.heap[b]? = some (.cells #[p,.slice none 0 0] T (0,0))→Calls c.P f #[.pointer (some ⟨b,0,none⟩)] w fun e w'=>e = .returned (.string ⟨#[]⟩)∧w'=w.drew)
  (row:∀ (b g n cap:Nat) (p:Value) (cur:Array Value) (l:List UInt8) (w:World),w.heap[b]? = some (.cells #[p,.slice (some ⟨g,0,none⟩) n cap] T (0,0))→w.heap[g]? = some (.cells cur E (0,0))→l.length=n→l≠[]→n≤cap→n≤cur.size→n≤9223372036854775807→
   (∀ (j:Nat) (x:UInt8),l[j]? = some x→cur[j]? = some (Value.int .u8 x.toNat))→Calls c.P f #[.pointer (some ⟨b,0,none⟩)] w fun e w'=>e = .returned (.string ⟨l.toArray⟩)∧w'=w.drew.freeze ⟨g,0,none⟩ l.length)
  {r:Nat} {s s':HS} {x:HV} (h:strT T E r s=some (x,s')):HCalls c.P f [.ptr r 0] s fun e st=>e = .ret x∧st=s':=by
 unfold strT at h
 split at h
 ·rename_i p v t hsg
  split at h
  ·rename_i ht
   have ht:=Nat.eq_of_beq_eq_true ht
   subst ht
   refine ⟨fun G w vs hs ha=>?_⟩
   obtain ⟨b,hb,rfl⟩:=arg_ptr ha
   obtain ⟨b',cur,hb',ro,hh,hcs,hK⟩:=hs.holds r _ (sget_mem hsg)
   rw [hb] at hb'
   cases hb'
   obtain ⟨u,v',rfl,h1,h2⟩:=relCs2 hcs
   unfold strV at h
   split at h
   ·cases h
    have h2:=rel_v_eq h2
    subst h2
    refine (nil b u w hh).mono fun e w' ⟨he,hw⟩=>?_
    subst he hw
    exact ⟨_,s,G,⟨rfl,rfl⟩,rel_v G,.drawn hs rfl rfl rfl rfl⟩
   ·rename_i q n
    split at h
    ·rename_i y hy
     unfold strRow at h
     split at h
     ·rename_i cs e
      split at h
      ·rename_i hc
       simp only [Bool.and_eq_true,Nat.blt_eq] at hc
       obtain ⟨⟨⟨c1,c2⟩,c3⟩,c4⟩:=hc
       have c1:=Nat.eq_of_beq_eq_true c1
       have c3:=Nat.le_of_ble_eq_true c3
       have c4:=Nat.le_of_ble_eq_true c4
       subst c1
       unfold strBytes at h
       split at h
       ·rename_i bs hbs
        cases h
        obtain ⟨g,cap,e1,e2,hle,rfl⟩:=rel_row h2
        obtain ⟨g',cap',cur,o1,o2,ro2,hg,hcap,hlen,hcs2,hK2⟩:=hs.holds q _ (sget_mem hy)
        rw [e1] at o1;cases o1
        rw [e2] at o2;cases o2
        have hcs3:=relCs_take n hcs2
        rw [List.take_take,Nat.min_eq_left c3] at hcs3
        obtain ⟨u1,u2⟩:=u8s_ok hbs hcs3
        have hbl:bs.length=n:=by rw [u2,List.length_take];omega
        refine (row b g n cap u cur bs w hh hg hbl (fun e=>by subst e;simp at hbl;omega) hle (by omega) (by omega) fun j x hj=>?_).mono fun e w' ⟨he,hw⟩=>?_
        ·have hjl:=(List.getElem?_eq_some_iff.1 hj).1
         have:(cur.toList.take n)[j]? = some (Value.int .u8 x.toNat):=by rw [u1,List.getElem?_map,hj];rfl
         rw [List.getElem?_take_of_lt (by omega)] at this
         rw [←Array.getElem?_toList];exact this
        ·subst he hw
         have p:=serase_perm hy
         have ok:=hs.permd p
         obtain ⟨f1,f2,f3⟩:=freeze_rest w.drew ⟨g,0,none⟩ bs.length
         have post:=post_lost (w':=w.drew.freeze ⟨g,0,none⟩ bs.length) ok ro2 hK2 (fun b' hne=>freeze_other _ _ _ hne) (freeze_size _ _ _) f1 f2 f3
         exact ⟨_,_,G,⟨rfl,rfl⟩,rel_v G,post.permL p.symm⟩
       ·cases h
      ·cases h
     ·cases h
    ·cases h
   ·cases h
  ·cases h
 ·cases h
end
end
end Go.Proofs.Hk

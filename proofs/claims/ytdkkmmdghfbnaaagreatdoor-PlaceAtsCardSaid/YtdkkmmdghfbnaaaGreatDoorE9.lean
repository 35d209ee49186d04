import Derived.Test.YtdkkmmdghfbnaaaGreatDoorE8
set_option linter.unusedVariables false
set_option linter.unusedSimpArgs false
namespace Go.Proofs.Hk
open Go
/-! Regions whose order is drawn. -/
theorem tgB_ok (tg:Tag):tgB tg=okTag tg:=by cases tg<;>rfl
section
variable {c:Cx} {n:Nat} {all:Array Oper} {t:HS} {E R:List (List Nat)} {i:Nat} {o:Oper} {tg:Tag} {a a1:Fr} {x:HV} {ps:List HS} {K:GF→List HS→Prop}
theorem DT.quiet (hi:all[i]? = some o) (hE:partOf E 0 i=none) (hR:partOf R 0 i=none) (hact:active all a o=some tg) (htg:okTag tg=true) (hp:hput n o.dst tg x a=some a1) (hT:OpT c n all o a [] x []) (h:K (fun t=>a1.get t) ps) :
  qOpN c.P n all t (partOf E 0) (partOf R 0) i K (fun t=>a.get t) ps:=by
 simp only [qOpN,hi,hE,hR]
 obtain ⟨g1,g2⟩:=hput_get hp
 exact ⟨(tg,x),fun m=>⟨g2,fun G w ra hs hf=>⟨d2_want hact hf,fun _=>hT.out (m ++ t) G w ra hs hf.rel⟩⟩,g1 ▸ h⟩
theorem DT.off (hi:all[i]? = some o) (hE:partOf E 0 i=none) (hR:partOf R 0 i=none) (hact:active all a o=some tg) (htg:okTag tg=false) (hp:hput n o.dst (.cond false) x a=some a1) (h:K (fun t=>a1.get t) ps) :
  qOpN c.P n all t (partOf E 0) (partOf R 0) i K (fun t=>a.get t) ps:=by
 simp only [qOpN,hi,hE,hR]
 obtain ⟨g1,g2⟩:=hput_get hp
 exact ⟨(.cond false,x),fun m=>⟨g2,fun G w ra hs hf=>⟨by rw [d2_want hact hf,tgB_ok,htg];rfl,fun hb=>by cases hb⟩⟩,g1 ▸ h⟩
theorem DT.turn {p:Nat} {m m':HS} (hi:all[i]? = some o) (hE:partOf E 0 i=some p) (hps:ps[p]? = some m) (hact:active all a o=some tg) (htg:okTag tg=true) (hp:hput n o.dst tg x a=some a1) (hT:OpT c n all o a m x m') (h:K (fun t=>a1.get t) (ps.set p m')) :
  qOpN c.P n all t (partOf E 0) (partOf R 0) i K (fun t=>a.get t) ps:=by
 simp only [qOpN,hi,hE]
 obtain ⟨g1,g2⟩:=hput_get hp
 refine ⟨(tg,x),m',by rw [tgB_ok];exact htg,fun qs hqs=>⟨g2,fun G w ra hs hf=>⟨d2_want hact hf,fun _=>?_⟩⟩,g1 ▸ h⟩
 rw [hps] at hqs
 have hs1:SRel G (m ++ (t ++ (qs.eraseIdx p).flatten)) w:=hs.permd (by
  have:=(perm_join hqs t).symm
  simpa using this)
 refine (hT.out _ G w ra hs1 hf.rel).mono fun u w' ⟨G',hr,hq⟩=>⟨G',hr,(hq.permL ?_).permR ?_⟩
 ·have:=perm_join hqs t
  simpa using this
 ·have:=perm_join2 (m:=m') hqs t
  simpa using this
theorem DT.read {p:Nat} {m:HS} (hi:all[i]? = some o) (hE:partOf E 0 i=none) (hR:partOf R 0 i=some p) (hps:ps[p]? = some m) (hact:active all a o=some tg) (htg:okTag tg=true) (hp:hput n o.dst tg x a=some a1) (hT:OpT c n all o a m x m) (h:K (fun t=>a1.get t) ps) :
  qOpN c.P n all t (partOf E 0) (partOf R 0) i K (fun t=>a.get t) ps:=by
 simp only [qOpN,hi,hE,hR]
 obtain ⟨g1,g2⟩:=hput_get hp
 refine ⟨(tg,x),fun qs hqs=>⟨g2,fun G w ra hs hf=>⟨d2_want hact hf,fun _=>?_⟩⟩,g1 ▸ h⟩
 rw [hps] at hqs
 have hs1:SRel G (m ++ (t ++ (qs.eraseIdx p).flatten)) w:=hs.permd (by
  have:=(perm_join hqs t).symm
  simpa using this)
 refine (hT.out _ G w ra hs1 hf.rel).mono fun u w' ⟨G',hr,hq⟩=>⟨G',hr,(hq.permL ?_).permR ?_⟩
 ·have:=perm_join hqs t
  simpa using this
 ·have:=perm_join hqs t
  simpa using this
end
theorem isSome_eq {x:Option Nat} {p:Nat} (h:isSome x p=true):x=some p:=by
 cases x with
 |none=>cases h
 |some q=>rw [Nat.eq_of_beq_eq_true (show Nat.beq q p=true from h)]
theorem place_get {T:List Nat} {r i p:Nat} (h:place T r i=some p):∃ j,p=i+j∧T[j]? = some r:=by
 induction T generalizing i with
 |nil=>cases h
 |cons q T ih=>
  rw [place] at h
  cases hb:Nat.beq q r with
  |true=>rw [hb] at h;cases h;exact ⟨0,rfl,by rw [←Nat.eq_of_beq_eq_true hb];rfl⟩
  |false=>
   rw [hb] at h
   obtain ⟨j,rfl,h2⟩:=ih h
   exact ⟨j+1,by omega,by simpa using h2⟩
theorem nodupN_ok:∀ {T:List Nat},nodupN T=true→T.Nodup
 |[],_=>List.nodup_nil
 |r::l,h=>by
  simp only [nodupN,Bool.and_eq_true,Bool.not_eq_true'] at h
  refine List.nodup_cons.2 ⟨fun hm=>?_,nodupN_ok h.2⟩
  rw [memN_iff.2 hm] at h
  cases h.1
theorem map_set {f g:Nat→HS} : ∀ {T:List Nat} {j r:Nat},T.Nodup→T[j]? = some r→(∀ q,q≠r→g q=f q)→(T.map f).set j (g r)=T.map g
 |[],j,r,_,h,_=>by simp at h
 |q::T,0,r,hn,h,hg=>by
  simp only [List.getElem?_cons_zero,Option.some.injEq] at h
  subst h
  simp only [List.map_cons,List.set_cons_zero,List.cons.injEq,true_and]
  refine List.map_congr_left fun z hz=>(hg z fun e=>?_).symm
  subst e
  exact (List.nodup_cons.1 hn).1 hz
 |q::T,j+1,r,hn,h,hg=>by
  simp only [List.getElem?_cons_succ] at h
  simp only [List.map_cons,List.set_cons_succ,List.cons.injEq]
  refine ⟨(hg q fun e=>?_).symm,map_set (List.nodup_cons.1 hn).2 h hg⟩
  subst e
  exact (List.nodup_cons.1 hn).1 (List.mem_of_getElem? h)
theorem sget_sset {B:HS} {r q:Nat} {y:Res} (hq:q≠r):sget (sset B r y) q=sget B q:=by
 induction B with
 |nil=>rfl
 |cons e B ih=>
  obtain ⟨u,x⟩:=e
  rw [sset_cons]
  cases hb:Nat.beq u r with
  |true=>
   have:=Nat.eq_of_beq_eq_true hb
   subst this
   show sget ((u,y)::B) q=_
   rw [sget_cons,sget_cons,beq_no (Ne.symm hq)]
  |false=>
   show sget ((u,x)::sset B r y) q=_
   rw [sget_cons,sget_cons,ih]
theorem sget_sset_eq {B:HS} {r:Nat} {y z:Res} (h:sget B r=some z):sget (sset B r y) r=some y:=by
 induction B with
 |nil=>cases h
 |cons e B ih=>
  obtain ⟨u,x⟩:=e
  rw [sset_cons]
  rw [sget_cons] at h
  cases hb:Nat.beq u r with
  |true=>show sget ((u,y)::B) r=_;rw [sget_cons,hb]
  |false=>
   rw [hb] at h
   show sget ((u,x)::sset B r y) r=_
   rw [sget_cons,hb]
   exact ih h
theorem single_congr {B B':HS} {r:Nat} (h:sget B' r=sget B r):single B' r=single B r:=by rw [single,single,h]
section
variable (c:Cx) (n:Nat) (all:Array Oper) (KA KB:Nat) (t:HS) (E R:List (List Nat)) (T:List Nat)
noncomputable def dps (A:HS) (kA:Nat) (B:HS):List HS:=(A ++ V kA KA)::T.map (single B)
/-- What goes on behind an operation, in such a region. -/
def DOk (l:List Oper) (i:Nat) (D:Fr→HS→Nat→HS→Nat→DR):Prop:=
 ∀ a A kA B kB a' A' kA' B' kB' cl,D a A kA B kB = .ok a' A' kA' B' kB' cl→agree E R T cl=true→kA≤KA→
  kA≤kA'∧kA'≤KA∧∀ Q:GF→List HS→Prop,Q (fun t=>a'.get t) (dps KA T A' kA' B')→textN c.P n all t (partOf E 0) (partOf R 0) Q (upto l.length i) (fun t=>a.get t) (dps KA T A kA B)
end
theorem putD_ok {n:Nat} {o:Oper} {a:Fr} {g:Tag} {x:HV} {k:Fr→DR} {a':Fr} {A':HS} {kA':Nat} {B':HS} {kB':Nat} {cl:List (Nat × Cl)} (h:putD n o a g x k = .ok a' A' kA' B' kB' cl):∃ a1,hput n o.dst g x a=some a1∧k a1 = .ok a' A' kA' B' kB' cl:=by
 unfold putD at h
 split at h
 ·rename_i a1 e;exact ⟨a1,e,h⟩
 ·cases h
theorem DR.cons_ok {i:Nat} {x:Cl} {r:DR} {a':Fr} {A':HS} {kA':Nat} {B':HS} {kB':Nat} {cl:List (Nat × Cl)} (h:DR.cons i x r = .ok a' A' kA' B' kB' cl):∃ l,cl=(i,x)::l∧r = .ok a' A' kA' B' kB' l:=by
 cases r with
 |out w p=>cases h
 |ok a A kA B kB l=>
  have h:DR.ok a A kA B kB ((i,x)::l) = .ok a' A' kA' B' kB' cl:=h
  injection h with e1 e2 e3 e4 e5 e6
  subst e1 e2 e3 e4 e5
  exact ⟨l,e6.symm,rfl⟩
theorem agree_cons {E R:List (List Nat)} {T:List Nat} {i:Nat} {x:Cl} {l:List (Nat × Cl)} (h:agree E R T ((i,x)::l)=true):agreeC E R T i x=true∧agree E R T l=true:=by
 simpa only [agree_is,Bool.and_eq_true] using h
/-- Calls without a name, that leave nothing behind. -/
def PureOk (c:Cx) (pure:FuncId→List HV→Rs):Prop:=∀ f xs x j,pure f xs = .ret x [] j→namelessL xs=true→nameless x=true→Pur c f xs x
theorem dTag_ok {c:Cx} {n:Nat} {all:Array Oper} {KA KB:Nat} {t:HS} {E R:List (List Nat)} {T:List Nat} (hT:T.Nodup) {l:List Oper} {i:Nat} {D:Fr→HS→Nat→HS→Nat→DR} (hD:DOk c n all KA t E R T l (Nat.succ i) D)
  {call:FuncId→List HV→HS→Nat→Rs} (hcall:CallOk c KA call) {pure:FuncId→List HV→Rs} (hpure:PureOk c pure) {o:Oper} (hi:all[i]? = some o) :
  DOk c n all KA t E R T (o::l) i (fun a A kA B kB=>dTag c n KA KB call pure o i D a A kA B kB (active all a o)):=by
 intro a A kA B kB a' A' kA' B' kB' cl h hag hk
 simp only [List.length_cons,upto,textN]
 have h:dTag c n KA KB call pure o i D a A kA B kB (active all a o) = .ok a' A' kA' B' kB' cl:=h
 cases hact:active all a o with
 |none=>rw [hact] at h;cases h
 |some tg=>
 rw [hact] at h
 simp only [dTag] at h
 cases htg:okTag tg with
 |false=>
  rw [htg] at h
  obtain ⟨a1,hp,h⟩:=putD_ok h
  obtain ⟨l1,ecl,h6⟩:=DR.cons_ok h;clear h;subst ecl
  obtain ⟨hc,hag⟩:=agree_cons hag
  simp only [agreeC,Bool.and_eq_true] at hc
  obtain ⟨h1,h2,h3⟩:=hD _ _ _ _ _ _ _ _ _ _ _ h6 hag hk
  exact ⟨h1,h2,fun Q q=>DT.off hi (isNone_eq hc.1) (isNone_eq hc.2) hact htg hp (h3 Q q)⟩
 |true=>
 rw [htg] at h
 simp only at h
 have hrow:=rowOp_ok (c:=c) (n:=n) (all:=all) (o:=o) (a:=a) (fun r=>isRowAt B r||isRowAt A r)
 unfold dRow at h
 have app:∀ (X:Nat→HV) (Y:Nat→Res) (m A0:HS),A.Perm (m ++ A0)→(∀ v,OpT c n all o a ([(v,.void),(v+1,.void)] ++ m) (X v) [(v,Y v)])→dAppGo n o a i tg kA B kB D KA X Y A0 = .ok a' A' kA' B' kB' cl→∃ a1,hput n o.dst tg (X kA) a=some a1∧kA+1 < KA∧partOf E 0 i=some 0∧kA+2≤kA'∧kA'≤KA∧∀ Q:GF→List HS→Prop,Q (fun t=>a'.get t) (dps KA T A' kA' B')→textN c.P n all t (partOf E 0) (partOf R 0) Q (upto l.length (Nat.succ i)) (fun t=>a1.get t) (dps KA T ((kA,Y kA)::A0) (kA+2) B):=by
  intro X Y m A0 hperm hT h
  unfold dAppGo at h
  split at h
  ·rename_i hb
   have hlt:kA+1 < KA:=Nat.le_of_ble_eq_true hb
   obtain ⟨a1,hp,h⟩:=putD_ok h
   rw [forceN_eq] at h
   obtain ⟨l1,ecl,h6⟩:=DR.cons_ok h;clear h;subst ecl
   obtain ⟨hc,hag⟩:=agree_cons hag
   simp only [agreeC] at hc
   obtain ⟨h1,h2,h3⟩:=hD _ _ _ _ _ _ _ _ _ _ _ h6 hag hlt
   exact ⟨a1,hp,hlt,isSome_eq hc,h1,h2,h3⟩
  ·cases h
 cases hrw:rowOp c (fun r=>isRowAt B r||isRowAt A r) o.op a with
 |app0 X Y=>
  rw [hrw] at h hrow
  have hT:∀ v,OpT c n all o a ([(v,.void),(v+1,.void)] ++ []) (X v) [(v,Y v)]:=fun v=>by simpa using hrow v
  obtain ⟨a1,hp,hlt,hE,h1,h2,h3⟩:=app X Y [] A (.refl _) hT h
  exact ⟨by omega,h2,fun Q q=>DT.turn (m:=A ++ V kA KA) (m':=((kA,Y kA)::A) ++ V (kA+2) KA) hi hE rfl hact htg hp (OpT.app_at (.refl _) hlt (hT kA)) (h3 Q q)⟩
 |app r q=>
  rw [hrw] at h hrow
  simp only at h
  cases hy:sget A r with
  |none=>rw [hy] at h;cases h
  |some y=>
   rw [hy] at h
   have h:dAppOn n o a i tg A kA B kB D KA r (q y)=_:=h
   unfold dAppOn at h
   cases hz:q y with
   |none=>rw [hz] at h;cases h
   |some XY=>
    obtain ⟨X,Y⟩:=XY
    rw [hz] at h
    obtain ⟨a1,hp,hlt,hE,h1,h2,h3⟩:=app X Y [(r,y)] (serase A r) (serase_perm hy) (fun v=>hrow y X Y v hz) h
    exact ⟨by omega,h2,fun Q q=>DT.turn (m:=A ++ V kA KA) (m':=((kA,Y kA)::serase A r) ++ V (kA+2) KA) hi hE rfl hact htg hp (OpT.app_at (serase_perm hy) hlt (hrow y X Y kA hz)) (h3 Q q)⟩
 |val x=>
  rw [hrw] at h hrow
  obtain ⟨a1,hp,h⟩:=putD_ok h
  obtain ⟨l1,ecl,h6⟩:=DR.cons_ok h;clear h;subst ecl
  obtain ⟨hc,hag⟩:=agree_cons hag
  simp only [agreeC,Bool.and_eq_true] at hc
  obtain ⟨h1,h2,h3⟩:=hD _ _ _ _ _ _ _ _ _ _ _ h6 hag hk
  exact ⟨h1,h2,fun Q q=>DT.quiet hi (isNone_eq hc.1) (isNone_eq hc.2) hact htg hp hrow (h3 Q q)⟩
 |look r q=>
  rw [hrw] at h hrow
  simp only at h
  cases hy:sget B r with
  |some y=>
   rw [hy] at h
   have h:dSeeB n o a i tg A kA B kB D r (q y)=_:=h
   unfold dSeeB at h
   have e1:single B r=[(r,y)]:=by rw [single,hy]
   cases hz:q y with
   |none=>rw [hz] at h;cases h
   |some x=>
    rw [hz] at h
    obtain ⟨a1,hp,h⟩:=putD_ok h
    obtain ⟨l1,ecl,h6⟩:=DR.cons_ok h;clear h;subst ecl
    obtain ⟨hc,hag⟩:=agree_cons hag
    simp only [agreeC] at hc
    split at hc
    ·rename_i p hpl
     obtain ⟨j,rfl,hj⟩:=place_get hpl
     simp only [Bool.and_eq_true] at hc
     obtain ⟨h1,h2,h3⟩:=hD _ _ _ _ _ _ _ _ _ _ _ h6 hag hk
     refine ⟨h1,h2,fun Q q'=>DT.read (m:=[(r,y)]) hi (isNone_eq hc.1) (isSome_eq hc.2) ?_ hact htg hp (hrow y x hz) (h3 Q q')⟩
     simp only [dps,Nat.add_comm 1 j,List.getElem?_cons_succ,List.getElem?_map,hj,Option.map_some,e1]
    ·cases hc
  |none=>
   rw [hy] at h
   simp only at h
   cases hy:sget A r with
   |none=>rw [hy] at h;cases h
   |some y=>
   rw [hy] at h
   have h:dSeeA n o a i tg A kA B kB D (q y)=_:=h
   unfold dSeeA at h
   cases hz:q y with
   |none=>rw [hz] at h;cases h
   |some x=>
    rw [hz] at h
    obtain ⟨a1,hp,h⟩:=putD_ok h
    obtain ⟨l1,ecl,h6⟩:=DR.cons_ok h;clear h;subst ecl
    obtain ⟨hc,hag⟩:=agree_cons hag
    simp only [agreeC,Bool.and_eq_true] at hc
    obtain ⟨h1,h2,h3⟩:=hD _ _ _ _ _ _ _ _ _ _ _ h6 hag hk
    exact ⟨h1,h2,fun Q q'=>DT.read (m:=A ++ V kA KA) hi (isNone_eq hc.1) (isSome_eq hc.2) rfl hact htg hp (((hrow y x hz).at_same hy).frame _) (h3 Q q')⟩
 |turn r q=>
  rw [hrw] at h hrow
  simp only at h
  cases hy:sget B r with
  |some y=>
   rw [hy] at h
   have h:dPutB n o a i tg A kA B kB D r (q y)=_:=h
   unfold dPutB at h
   have e1:single B r=[(r,y)]:=by rw [single,hy]
   cases hz:q y with
   |none=>rw [hz] at h;cases h
   |some xz=>
    obtain ⟨x,y'⟩:=xz
    rw [hz] at h
    simp only at h
    obtain ⟨a1,hp,h⟩:=putD_ok h
    rw [forceL_eq] at h
    obtain ⟨l1,ecl,h6⟩:=DR.cons_ok h;clear h;subst ecl
    obtain ⟨hc,hag⟩:=agree_cons hag
    simp only [agreeC] at hc
    split at hc
    ·rename_i p hpl
     obtain ⟨j,rfl,hj⟩:=place_get hpl
     obtain ⟨h1,h2,h3⟩:=hD _ _ _ _ _ _ _ _ _ _ _ h6 hag hk
     have e2:single (sset B r y') r=[(r,y')]:=by rw [single,sget_sset_eq hy]
     refine ⟨h1,h2,fun Q q'=>DT.turn (m:=[(r,y)]) (m':=[(r,y')]) hi (isSome_eq hc) ?_ hact htg hp (hrow y x y' hz) ?_⟩
     ·simp only [dps,Nat.add_comm 1 j,List.getElem?_cons_succ,List.getElem?_map,hj,Option.map_some,e1]
     ·have:=h3 Q q'
      simp only [dps,Nat.add_comm 1 j,List.set_cons_succ] at this ⊢
      rw [←e2,map_set hT hj fun q hq=>single_congr (sget_sset hq)]
      exact this
    ·cases hc
  |none=>
   rw [hy] at h
   simp only at h
   cases hy:sget A r with
   |none=>rw [hy] at h;cases h
   |some y=>
   rw [hy] at h
   have h:dPutA n o a i tg A kA B kB D r (q y)=_:=h
   unfold dPutA at h
   cases hz:q y with
   |none=>rw [hz] at h;cases h
   |some xz=>
    obtain ⟨x,y'⟩:=xz
    rw [hz] at h
    simp only at h
    obtain ⟨a1,hp,h⟩:=putD_ok h
    rw [forceL_eq] at h
    obtain ⟨l1,ecl,h6⟩:=DR.cons_ok h;clear h;subst ecl
    obtain ⟨hc,hag⟩:=agree_cons hag
    simp only [agreeC] at hc
    obtain ⟨h1,h2,h3⟩:=hD _ _ _ _ _ _ _ _ _ _ _ h6 hag hk
    exact ⟨h1,h2,fun Q q'=>DT.turn (m:=A ++ V kA KA) (m':=sset A r y' ++ V kA KA) hi (isSome_eq hc) rfl hact htg hp (((hrow y x y' hz).at_part hy).frame _) (h3 Q q')⟩
 |no=>
 rw [hrw] at h
 simp only at h
 cases hq:cop c o.op a with
 |bad=>rw [hq] at h;cases h
 |pan _=>rw [hq] at h;cases h
 |upd _ _ _=>rw [hq] at h;cases h
 |val x=>
  rw [hq] at h
  obtain ⟨a1,hp,h⟩:=putD_ok (show putD n o a tg x _=_ from h)
  obtain ⟨l1,ecl,h6⟩:=DR.cons_ok h;clear h;subst ecl
  obtain ⟨hc,hag⟩:=agree_cons hag
  simp only [agreeC,Bool.and_eq_true] at hc
  obtain ⟨h1,h2,h3⟩:=hD _ _ _ _ _ _ _ _ _ _ _ h6 hag hk
  exact ⟨h1,h2,fun Q q=>DT.quiet hi (isNone_eq hc.1) (isNone_eq hc.2) hact htg hp (OpT.val hq) (h3 Q q)⟩
 |same x=>
  rw [hq] at h
  obtain ⟨a1,hp,h⟩:=putD_ok (show putD n o a tg x _=_ from h)
  obtain ⟨l1,ecl,h6⟩:=DR.cons_ok h;clear h;subst ecl
  obtain ⟨hc,hag⟩:=agree_cons hag
  simp only [agreeC,Bool.and_eq_true] at hc
  obtain ⟨h1,h2,h3⟩:=hD _ _ _ _ _ _ _ _ _ _ _ h6 hag hk
  exact ⟨h1,h2,fun Q q=>DT.quiet hi (isNone_eq hc.1) (isNone_eq hc.2) hact htg hp (OpT.same hq) (h3 Q q)⟩
 |new X Y=>
  rw [hq] at h
  have h:dNew n o a i tg A kA B kB KB D X Y=_:=h
  unfold dNew at h
  split at h
  ·rename_i hb
   simp only [Bool.and_eq_true] at hb
   obtain ⟨a1,hp,h⟩:=putD_ok h
   rw [forceN_eq] at h
   obtain ⟨l1,ecl,h6⟩:=DR.cons_ok h;clear h;subst ecl
   obtain ⟨hc,hag⟩:=agree_cons hag
   simp only [agreeC] at hc
   split at hc
   ·rename_i p hpl
    obtain ⟨j,rfl,hj⟩:=place_get hpl
    obtain ⟨h1,h2,h3⟩:=hD _ _ _ _ _ _ _ _ _ _ _ h6 hag hk
    have hno:=isNone_eq hb.2
    have e1:single B kB=[(kB,.void)]:=by rw [single,hno]
    have e2:single ((kB,Y kB)::B) kB=[(kB,Y kB)]:=by rw [single,sget_cons];simp
    refine ⟨h1,h2,fun Q q=>DT.turn (m:=[(kB,.void)]) (m':=[(kB,Y kB)]) hi (isSome_eq hc) ?_ hact htg hp (OpT.new kB hb.1.2 hq) ?_⟩
    ·simp only [dps,Nat.add_comm 1 j,List.getElem?_cons_succ,List.getElem?_map,hj,Option.map_some,e1]
    ·have:=h3 Q q
     simp only [dps,Nat.add_comm 1 j,List.set_cons_succ] at this ⊢
     rw [←e2,map_set hT hj fun q hq=>single_congr (by rw [sget_cons,beq_no (Ne.symm hq)])]
     exact this
   ·cases hc
  ·cases h
 |call f xs=>
  rw [hq] at h
  have h:dCall n o a i tg A kA B kB D call pure f xs=_:=h
  unfold dCall at h
  cases hn:namelessL xs with
  |true=>
   rw [hn] at h
   have h:dPure n o a i tg A kA B kB D (pure f xs)=_:=h
   unfold dPure at h
   split at h
   ·rename_i x j hpu
    cases hx:nameless x with
    |true=>
     rw [hx] at h
     obtain ⟨a1,hp,h⟩:=putD_ok h
     obtain ⟨l1,ecl,h6⟩:=DR.cons_ok h;clear h;subst ecl
     obtain ⟨hc,hag⟩:=agree_cons hag
     simp only [agreeC,Bool.and_eq_true] at hc
     obtain ⟨h1,h2,h3⟩:=hD _ _ _ _ _ _ _ _ _ _ _ h6 hag hk
     exact ⟨h1,h2,fun Q q=>DT.quiet hi (isNone_eq hc.1) (isNone_eq hc.2) hact htg hp (OpT.call hq ((hpure f xs x j hpu hn hx).calls [])) (h3 Q q)⟩
    |false=>rw [hx] at h;cases h
   ·cases h
   ·cases h
  |false=>
   rw [hn] at h
   have h:dTurn n o a i tg B kB D (call f xs A kA)=_:=h
   unfold dTurn at h
   split at h
   ·rename_i x A1 kA1 hcl
    obtain ⟨a1,hp,h⟩:=putD_ok h
    obtain ⟨l1,ecl,h6⟩:=DR.cons_ok h;clear h;subst ecl
    obtain ⟨hc,hag⟩:=agree_cons hag
    simp only [agreeC] at hc
    obtain ⟨q1,q2,q3⟩:=(hcall f xs A kA hk).1 _ _ _ hcl
    obtain ⟨h1,h2,h3⟩:=hD _ _ _ _ _ _ _ _ _ _ _ h6 hag q2
    exact ⟨by omega,h2,fun Q q=>DT.turn (m:=A ++ V kA KA) (m':=A1 ++ V kA1 KA) hi (isSome_eq hc) rfl hact htg hp (OpT.call hq q3) (h3 Q q)⟩
   ·cases h
   ·cases h
 |look r q=>
  rw [hq] at h
  have h:dLook n o a i tg A kA B kB D r q=_:=h
  unfold dLook at h
  cases hy:sget B r with
  |some y=>
   rw [hy] at h
   have h:dLookB n o a i tg A kA B kB D r (q y)=_:=h
   have e1:single B r=[(r,y)]:=by rw [single,hy]
   have hm:sget [(r,y)] r=some y:=by rw [sget_cons];simp
   cases hz:q y with
   |bad=>rw [hz] at h;cases h
   |pan _=>rw [hz] at h;cases h
   |call _ _=>rw [hz] at h;cases h
   |new _ _=>rw [hz] at h;cases h
   |look _ _=>rw [hz] at h;cases h
   |same _=>rw [hz] at h;cases h
   |val x=>
    rw [hz] at h
    obtain ⟨a1,hp,h⟩:=putD_ok (show putD n o a tg x _=_ from h)
    obtain ⟨l1,ecl,h6⟩:=DR.cons_ok h;clear h;subst ecl
    obtain ⟨hc,hag⟩:=agree_cons hag
    simp only [agreeC] at hc
    split at hc
    ·rename_i p hpl
     obtain ⟨j,rfl,hj⟩:=place_get hpl
     simp only [Bool.and_eq_true] at hc
     obtain ⟨h1,h2,h3⟩:=hD _ _ _ _ _ _ _ _ _ _ _ h6 hag hk
     refine ⟨h1,h2,fun Q q'=>DT.read (m:=[(r,y)]) hi (isNone_eq hc.1) (isSome_eq hc.2) ?_ hact htg hp (OpT.look_val hq hm hz) (h3 Q q')⟩
     simp only [dps,Nat.add_comm 1 j,List.getElem?_cons_succ,List.getElem?_map,hj,Option.map_some,e1]
    ·cases hc
   |upd x r' y'=>
    rw [hz] at h
    simp only [dLookB] at h
    cases hb:Nat.beq r' r with
    |false=>rw [hb] at h;cases h
    |true=>
     rw [hb] at h
     have hb:=Nat.eq_of_beq_eq_true hb
     subst hb
     obtain ⟨a1,hp,h⟩:=putD_ok h
     rw [forceL_eq] at h
     obtain ⟨l1,ecl,h6⟩:=DR.cons_ok h;clear h;subst ecl
     obtain ⟨hc,hag⟩:=agree_cons hag
     simp only [agreeC] at hc
     split at hc
     ·rename_i p hpl
      obtain ⟨j,rfl,hj⟩:=place_get hpl
      obtain ⟨h1,h2,h3⟩:=hD _ _ _ _ _ _ _ _ _ _ _ h6 hag hk
      have e2:single (sset B r' y') r'=[(r',y')]:=by rw [single,sget_sset_eq hy]
      have e3:sset [(r',y)] r' y'=[(r',y')]:=by rw [sset_cons];simp
      refine ⟨h1,h2,fun Q q'=>DT.turn (m:=[(r',y)]) (m':=[(r',y')]) hi (isSome_eq hc) ?_ hact htg hp (e3 ▸ OpT.look_upd hq hm hz hm) ?_⟩
      ·simp only [dps,Nat.add_comm 1 j,List.getElem?_cons_succ,List.getElem?_map,hj,Option.map_some,e1]
      ·have:=h3 Q q'
       simp only [dps,Nat.add_comm 1 j,List.set_cons_succ] at this ⊢
       rw [←e2,map_set hT hj fun q hq=>single_congr (sget_sset hq)]
       exact this
     ·cases hc
  |none=>
   rw [hy] at h
   simp only at h
   cases hy:sget A r with
   |none=>rw [hy] at h;cases h
   |some y=>
   rw [hy] at h
   have h:dLookA n o a i tg A kA B kB D r (q y)=_:=h
   cases hz:q y with
   |bad=>rw [hz] at h;cases h
   |pan _=>rw [hz] at h;cases h
   |call _ _=>rw [hz] at h;cases h
   |new _ _=>rw [hz] at h;cases h
   |look _ _=>rw [hz] at h;cases h
   |same _=>rw [hz] at h;cases h
   |val x=>
    rw [hz] at h
    obtain ⟨a1,hp,h⟩:=putD_ok (show putD n o a tg x _=_ from h)
    obtain ⟨l1,ecl,h6⟩:=DR.cons_ok h;clear h;subst ecl
    obtain ⟨hc,hag⟩:=agree_cons hag
    simp only [agreeC,Bool.and_eq_true] at hc
    obtain ⟨h1,h2,h3⟩:=hD _ _ _ _ _ _ _ _ _ _ _ h6 hag hk
    exact ⟨h1,h2,fun Q q'=>DT.read (m:=A ++ V kA KA) hi (isNone_eq hc.1) (isSome_eq hc.2) rfl hact htg hp ((OpT.look_val hq hy hz).frame _) (h3 Q q')⟩
   |upd x r' y'=>
    rw [hz] at h
    simp only [dLookA] at h
    cases hb:Nat.beq r' r with
    |false=>rw [hb] at h;cases h
    |true=>
     rw [hb] at h
     have hb:=Nat.eq_of_beq_eq_true hb
     subst hb
     obtain ⟨a1,hp,h⟩:=putD_ok h
     rw [forceL_eq] at h
     obtain ⟨l1,ecl,h6⟩:=DR.cons_ok h;clear h;subst ecl
     obtain ⟨hc,hag⟩:=agree_cons hag
     simp only [agreeC] at hc
     obtain ⟨h1,h2,h3⟩:=hD _ _ _ _ _ _ _ _ _ _ _ h6 hag hk
     exact ⟨h1,h2,fun Q q'=>DT.turn (m:=A ++ V kA KA) (m':=sset A r' y' ++ V kA KA) hi (isSome_eq hc) rfl hact htg hp ((OpT.look_upd hq hy hz hy).frame _) (h3 Q q')⟩
theorem evD_ok {c:Cx} {n:Nat} {all:Array Oper} {KA KB:Nat} {t:HS} {E R:List (List Nat)} {T:List Nat} (hT:T.Nodup) {call:FuncId→List HV→HS→Nat→Rs} (hcall:CallOk c KA call) {pure:FuncId→List HV→Rs} (hpure:PureOk c pure) :
  ∀ (l:List Oper) (i:Nat),all.toList.drop i=l→DOk c n all KA t E R T l i (evD c n all KA KB call pure l i)
 |[],i,_=>fun a A kA B kB a' A' kA' B' kB' cl h hag hk=>by
  have h:DR.ok a A kA B kB [] = .ok a' A' kA' B' kB' cl:=h
  injection h with e1 e2 e3 e4 e5 e6
  subst e1 e2 e3 e4 e5
  exact ⟨Nat.le_refl _,hk,fun Q q=>q⟩
 |o::l,i,hi=>by
  obtain ⟨h1,h2⟩:=drop_head hi
  exact dTag_ok hT (evD_ok hT hcall hpure l (i+1) h2) hcall hpure h1
end Go.Proofs.Hk

set_option linter.unusedVariables false
set_option linter.unusedSimpArgs false
namespace Go.Proofs.Hk
open Go
/-! Parts of a state. -/
def Sb (s' s:HS):Prop:=∃ r,(s' ++ r).Perm s
theorem Sb.subp {s' s:HS} (h:Sb s' s):Subp s' s:=by
 obtain ⟨r,h⟩:=h
 exact ⟨s' ++ r,h,List.sublist_append_left _ _⟩
theorem Sb.refl (s:HS):Sb s s:=⟨[],by simp⟩
theorem Sb.left (s t:HS):Sb s (s ++ t):=⟨t,.refl _⟩
theorem Sb.permL {s' s'' s:HS} (p:s'.Perm s'') (h:Sb s'' s):Sb s' s:=by
 obtain ⟨r,h⟩:=h
 exact ⟨r,(List.Perm.append_right r p).trans h⟩
theorem Sb.permR {s' s t:HS} (h:Sb s' s) (p:s.Perm t):Sb s' t:=by
 obtain ⟨r,h⟩:=h
 exact ⟨r,h.trans p⟩
theorem Sb.trans {a b c:HS} (h:Sb a b) (k:Sb b c):Sb a c:=by
 obtain ⟨r,h⟩:=h
 obtain ⟨q,k⟩:=k
 exact ⟨r ++ q,by rw [←List.append_assoc];exact (List.Perm.append_right q h).trans k⟩
theorem Sb.app {a b x y:HS} (h:Sb a b) (k:Sb x y):Sb (a ++ x) (b ++ y):=by
 obtain ⟨r,h⟩:=h
 obtain ⟨q,k⟩:=k
 refine ⟨r ++ q,?_⟩
 have p1:((a ++ x) ++ (r ++ q)).Perm ((a ++ r) ++ (x ++ q)):=by
  rw [List.append_assoc,List.append_assoc]
  refine List.Perm.append_left a ?_
  rw [←List.append_assoc,←List.append_assoc]
  exact List.Perm.append_right q List.perm_append_comm
 exact p1.trans (h.append k)
theorem Sb.of_sublist {a b:HS} (h:a.Sublist b):Sb a b:=by
 induction h with
 |slnil=>exact .refl _
 |cons x _ ih=>
  obtain ⟨r,h⟩:=ih
  exact ⟨x::r,List.perm_middle.trans (h.cons x)⟩
 |cons_cons x _ ih=>
  obtain ⟨r,h⟩:=ih
  exact ⟨r,h.cons x⟩
theorem SemWp.post {P:Program} {n:Nat} {code:Code} {Q:HExit→Fr→HS→Prop} {a:Fr} {s:HS} (h:SemWp P n code (fun e a s1=>∃ s2,Subp s2 s1∧Q e a s2) a s):SemWp P n code Q a s:=
 ⟨fun G w ra hs hf=>wpB_mono (h.out G w ra hs hf) fun _ _ _ ⟨he,a',s',G',⟨s2,p,q⟩,hr,hf',hp⟩=>⟨he,a',s2,G',q,hr,hf',p.post hp⟩⟩
theorem split_perm (seen:List Nat):∀ s:HS,(splitA seen s ++ splitB seen s).Perm s
 |[]=>.refl _
 |e::s=>by
  simp only [splitA_cons,splitB_cons]
  cases memN e.1 seen with
  |true=>exact (split_perm seen s).cons e
  |false=>exact List.perm_middle.trans ((split_perm seen s).cons e)
theorem splitB_app (T:List Nat):∀ s t:HS,splitB T (s ++ t)=splitB T s ++ splitB T t
 |[],t=>rfl
 |e::s,t=>by
  simp only [List.cons_append,splitB_cons]
  cases memN e.1 T<;>simp only [splitB_app T s t,List.cons_append]
theorem splitB_sub {T T1:List Nat} (h:∀ r,r∈T1→r∈T):∀ s:HS,(splitB T s).Sublist (splitB T1 s)
 |[]=>.slnil
 |e::s=>by
  simp only [splitB_cons]
  cases h1:memN e.1 T1 with
  |true=>
   rw [memN_iff.2 (h _ (memN_iff.1 h1))]
   exact splitB_sub h s
  |false=>
   cases memN e.1 T with
   |true=>exact (splitB_sub h s).cons _
   |false=>exact (splitB_sub h s).cons_cons _
theorem sget_app (s t:HS) (r:Nat):sget (s ++ t) r=match sget s r with|some y=>some y|none=>sget t r:=by
 induction s with
 |nil=>rfl
 |cons e s ih=>
  obtain ⟨q,x⟩:=e
  rw [List.cons_append,sget_cons,sget_cons]
  cases Nat.beq q r with
  |true=>rfl
  |false=>exact ih
theorem sget_V {k K r:Nat} (h1:k≤r) (h2:r < K):sget (V k K) r=some .void:=by
 unfold V
 generalize hm:K - k=m
 have h2:r < k+m:=by omega
 clear hm
 induction m generalizing k with
 |zero=>omega
 |succ m ih=>
  rw [List.range'_succ,List.map_cons,sget_cons]
  by_cases e:k=r
  ·subst e;simp
  ·rw [beq_no e]
   exact ih (by omega) (by omega)
theorem flatMap_eq {f g:Nat→HS} : ∀ {l:List Nat},(∀ r,r∈l→f r=g r)→l.flatMap f=l.flatMap g
 |[],_=>rfl
 |x::l,h=>by rw [List.flatMap_cons,List.flatMap_cons,h x List.mem_cons_self,flatMap_eq fun r hr=>h r (List.mem_cons_of_mem _ hr)]
theorem sub_touched:∀ (M:HS) (T:List Nat),T.Nodup→(∀ r,r∈T→sget M r≠none)→Sb (T.flatMap (single M) ++ splitB T M) M
 |[],T,hn,hT=>by
  cases T with
  |nil=>exact .refl _
  |cons r T=>exact absurd rfl (hT r List.mem_cons_self)
 |(q,y)::M,T,hn,hT=>by
  by_cases hq:q∈T
  ·have hp:=List.perm_cons_erase hq
   have hn':=(hp.nodup_iff).1 hn
   obtain ⟨hq1,hn1⟩:=List.nodup_cons.1 hn'
   have hne:∀ r,r∈T.erase q→q≠r:=fun r hr e=>hq1 (e ▸ hr)
   have e1:single ((q,y)::M) q=[(q,y)]:=by rw [single,sget_cons];simp
   have e2:∀ r,r∈T.erase q→single ((q,y)::M) r=single M r:=fun r hr=>single_congr (by rw [sget_cons,beq_no (hne r hr)])
   have e3:splitB T ((q,y)::M)=splitB T M:=by simp only [splitB_cons,memN_iff.2 hq]
   have ih:=sub_touched M (T.erase q) hn1 fun r hr=>by
    have:=hT r (List.mem_of_mem_erase hr)
    rwa [sget_cons,beq_no (hne r hr)] at this
   rw [e3]
   have p1:(T.flatMap (single ((q,y)::M))).Perm ((q,y)::(T.erase q).flatMap (single M)):=by
    refine (List.Perm.flatMap_right _ hp).trans ?_
    rw [List.flatMap_cons,e1]
    have:(T.erase q).flatMap (single ((q,y)::M))=(T.erase q).flatMap (single M):=flatMap_eq fun r hr=>e2 r hr
    rw [this]
    exact .refl _
   refine Sb.permL (List.Perm.append_right _ p1) ?_
   refine Sb.app (a:=[(q,y)]) (b:=[(q,y)]) (x:=(T.erase q).flatMap (single M) ++ splitB T M) (y:=M) (.refl _) ?_
   exact (Sb.app (.refl _) (.of_sublist (splitB_sub (fun r hr=>List.mem_of_mem_erase hr) M))).trans ih
  ·have hne:∀ r,r∈T→q≠r:=fun r hr e=>hq (e ▸ hr)
   have hf:memN q T=false:=by
    cases h:memN q T with
    |true=>exact absurd (memN_iff.1 h) hq
    |false=>rfl
   have e2:T.flatMap (single ((q,y)::M))=T.flatMap (single M):=flatMap_eq fun r hr=>single_congr (by rw [sget_cons,beq_no (hne r hr)])
   have ih:=sub_touched M T hn fun r hr=>by
    have:=hT r hr
    rwa [sget_cons,beq_no (hne r hr)] at this
   simp only [splitB_cons,hf,e2]
   refine Sb.permL List.perm_middle ?_
   exact Sb.app (a:=[(q,y)]) (b:=[(q,y)]) (.refl _) ih
theorem inB_ok {B:HS} {k1 k2:Nat} : ∀ {T:List Nat},inB B k1 k2 T=true→∀ r,r∈T→sget B r≠none∨(k1≤r∧r < k2)
 |[],_,r,hr=>by cases hr
 |q::T,h,r,hr=>by
  simp only [inB_cons,Bool.and_eq_true,Bool.or_eq_true,Bool.not_eq_true'] at h
  rcases List.mem_cons.1 hr with rfl|hr
  ·rcases h.1 with h1|h1
   ·refine .inl fun e=>?_
    rw [e] at h1
    cases h1
   ·exact .inr ⟨Nat.le_of_ble_eq_true h1.1,blt_iff.1 h1.2⟩
  ·exact inB_ok h.2 r hr
theorem noneIn_ok {k1 k2:Nat} : ∀ {T:List Nat},noneIn k1 k2 T=true→∀ r,r∈T→¬ (k1≤r∧r < k2)
 |[],_,r,hr=>by cases hr
 |q::T,h,r,hr=>by
  simp only [noneIn_cons,Bool.and_eq_true,Bool.not_eq_true'] at h
  rcases List.mem_cons.1 hr with rfl|hr
  ·rintro ⟨a,b⟩
   have:(Nat.ble k1 r && Nat.blt r k2)=true:=by rw [Bool.and_eq_true];exact ⟨Nat.ble_eq_true_of_le a,blt_iff.2 b⟩
   rw [this] at h
   cases h.1
  ·exact noneIn_ok h.2 r hr
theorem splitB_V {k1 k2:Nat} {T:List Nat} (h:∀ r,r∈T→¬ (k1≤r∧r < k2)):splitB T (V k1 k2)=V k1 k2:=by
 have key:∀ l:List Nat,(∀ q,q∈l→q∉T)→splitB T (l.map fun r=>(r,Res.void))=l.map fun r=>(r,Res.void):=by
  intro l
  induction l with
  |nil=>intro _;rfl
  |cons q l ih=>
   intro hl
   have hf:memN q T=false:=by
    cases h:memN q T with
    |true=>exact absurd (memN_iff.1 h) (hl q List.mem_cons_self)
    |false=>rfl
   simp only [List.map_cons,splitB_cons,hf,ih fun r hr=>hl r (List.mem_cons_of_mem _ hr)]
 exact key _ fun q hq hT=>h q hT (by have:=List.mem_range'_1.1 hq;omega)
theorem single_sub (B:HS):∀ T:List Nat,(T.flatMap (single' B)).Sublist (T.flatMap (single B))
 |[]=>.slnil
 |r::T=>by
  rw [List.flatMap_cons,List.flatMap_cons]
  refine List.Sublist.append ?_ (single_sub B T)
  unfold single single'
  cases sget B r with
  |some y=>exact .refl _
  |none=>exact List.nil_sublist _
theorem hPick_mid (p:HS) (r:Nat) (x:Res) (t:HS):HPick (p ++ (r,x)::t) r x (p ++ t):=by
 induction p with
 |nil=>exact .hit
 |cons y p ih=>exact .miss ih
theorem hTake_app:∀ m t:HS,HTake (m ++ t) m t
 |[],t=>.nil
 |(r,x)::m,t=>.cons .hit (hTake_app m t)
theorem upto_length:∀ n i,(upto n i).length=n
 |0,_=>rfl
 |n+1,i=>by simp [upto,upto_length n]
theorem evDraw_ok {c:Cx} {n:Nat} {ops:Array Oper} {call:FuncId→List HV→HS→Nat→Nat→Nat→Rs} {pure:FuncId→List HV→Rs} (hcall:∀ K d,CallOk c K (fun f xs s k=>call f xs s k K d)) (hpure:PureOk c pure)
  {a:Fr} {s:HS} {k K d:Nat} {e:HExit} {a':Fr} {s':HS} {k':Nat} (h:evDraw c n ops call pure a s k K d = .ok e a' s' k') (hk:k≤K) :
  k≤k'∧k'≤K∧∀ (Q:HExit→Fr→HS→Prop) (id:Nat),Q e a' (s' ++ V k' K)→SemWp c.P n (.region id ops true) Q a (s ++ V k K):=by
 cases d with
 |zero=>cases h
 |succ d=>
 simp only [evDraw,forceN_eq] at h
 generalize hk1:k+2 ^ (24 * d)=k1 at h
 generalize hk2:k1+2 ^ (24 * d)=k2 at h
 have l1:k≤k1:=hk1 ▸ Nat.le_add_right _ _
 have l2:k1≤k2:=hk2 ▸ Nat.le_add_right _ _
 split at h
 ·cases h
 ·rename_i hb
  have hle:=Nat.le_of_ble_eq_true hb
  simp only [evDraw1,forceL_eq] at h
  generalize clos s 2000 (roots c n ops a s) []=seen at h
  generalize hA:splitA seen s=A at h
  generalize hB:splitB seen s=B at h
  have hAB:(A ++ B).Perm s:=by rw [←hA,←hB];exact split_perm seen s
  cases hD:evD c n ops k1 k2 (fun f xs s k=>call f xs s k k1 d) pure ops.toList 0 a A k B k1 with
  |out w p=>rw [hD] at h;cases h
  |ok a1 A1 kA B1 kB cl=>
   rw [hD] at h
   simp only [evDraw2,forceL_eq,forceLL_eq] at h
   generalize touched cl []=T at h
   generalize EOf cl T=E at h
   generalize ROf cl T=R at h
   unfold evDraw3 at h
   split at h
   ·cases h
   ·rename_i hc
    simp only [Bool.and_eq_true] at hc
    obtain ⟨⟨⟨c1,c2⟩,c3⟩,c4⟩:=hc
    have hn:=nodupN_ok c3
    have hin:=inB_ok c4
    rw [forceL_eq] at h
    have hDok:=evD_ok (t:=splitB T (B ++ V k1 k2) ++ V k2 K) (E:=E) (R:=R) hn (hcall k1 d) hpure ops.toList 0 rfl a A k B k1 _ _ _ _ _ _ hD c2 l1
    obtain ⟨m1,m2,m3⟩:=hDok
    have hM:∀ r,r∈T→single (B ++ V k1 k2) r=single B r:=fun r hr=>by
     cases hg:sget B r with
     |some y=>exact single_congr (by rw [sget_app,hg])
     |none=>
      have:=(hin r hr).resolve_left (fun h=>h hg)
      have e1:sget (B ++ V k1 k2) r=some .void:=by rw [sget_app,hg];exact sget_V this.1 this.2
      rw [single,single,e1,hg]
    have hMs:∀ r,r∈T→sget (B ++ V k1 k2) r≠none:=fun r hr e=>by
     rcases hin r hr with h1|h1
     ·rw [sget_app] at e
      split at e
      ·cases e
      ·rename_i h2;exact h1 h2
     ·rw [sget_app,sget_V h1.1 h1.2] at e
      split at e<;>cases e
    have hsub0:=sub_touched (B ++ V k1 k2) T hn hMs
    have hfl:T.flatMap (single (B ++ V k1 k2))=T.flatMap (single B):=flatMap_eq fun r hr=>hM r hr
    rw [hfl] at hsub0
    have hstart:Sb ((dps k1 T A k B).flatten ++ (splitB T (B ++ V k1 k2) ++ V k2 K)) (s ++ V k K):=by
     have e1:(dps k1 T A k B).flatten=(A ++ V k k1) ++ T.flatMap (single B):=by simp [dps,List.flatMap]
     rw [e1]
     have p1:(A ++ V k k1 ++ ((B ++ V k1 k2) ++ V k2 K)).Perm (s ++ V k K):=by
      rw [V_split l1 (by omega:k1≤K),V_split l2 hle]
      refine List.Perm.trans ?_ (List.Perm.append_right _ hAB)
      simp only [List.append_assoc]
      refine List.Perm.append_left A ?_
      exact List.perm_append_comm_assoc _ _ _
     refine Sb.permR ?_ p1
     rw [List.append_assoc (A ++ V k k1)]
     refine Sb.app (.refl _) ?_
     rw [←List.append_assoc]
     exact Sb.app hsub0 (.refl _)
    have hend:∀ k0,(k0=k2∨(k0=k∧kA=k∧noneIn k1 k2 T=true))→Sb (A1 ++ (T.flatMap (single' B1) ++ splitB T B) ++ V k0 K) ((dps k1 T A1 kA B1).flatten ++ (splitB T (B ++ V k1 k2) ++ V k2 K)):=by
     intro k0 hk0
     have e1:(dps k1 T A1 kA B1).flatten=(A1 ++ V kA k1) ++ T.flatMap (single B1):=by simp [dps,List.flatMap]
     rw [e1,splitB_app]
     rcases hk0 with rfl|⟨rfl,rfl,hno⟩
     ·simp only [List.append_assoc]
      refine Sb.app (.refl _) ?_
      refine Sb.trans ?_ (Sb.permR (.left _ (V kA k1)) List.perm_append_comm)
      refine Sb.app (.of_sublist (single_sub B1 T)) ?_
      refine Sb.app (.refl _) ?_
      exact Sb.permR (.left _ (splitB T (V k1 k0))) List.perm_append_comm
     ·rw [splitB_V (noneIn_ok hno),V_split l1 (by omega:k1≤K),V_split l2 hle]
      simp only [List.append_assoc]
      refine Sb.app (.refl _) ?_
      refine Sb.permL (s'':=V kA k1 ++ (T.flatMap (single' B1) ++ (splitB T B ++ (V k1 k2 ++ V k2 K)))) ?_ ?_
      ·have:=List.perm_append_comm_assoc (T.flatMap (single' B1) ++ splitB T B) (V kA k1) (V k1 k2 ++ V k2 K)
       simpa only [List.append_assoc] using this
      ·refine Sb.app (.refl _) ?_
       exact Sb.app (.of_sublist (single_sub B1 T)) (.refl _)
    have fin:∀ k0,(k0=k2∨(k0=k∧kA=k∧noneIn k1 k2 T=true))→∀ (Q:HExit→Fr→HS→Prop) (id:Nat),Q .normal a1 ((A1 ++ (T.flatMap (single' B1) ++ splitB T B)) ++ V k0 K)→SemWp c.P n (.region id ops true) Q a (s ++ V k K):=by
     intro k0 hk0 Q id q
     refine SemWp.less hstart.subp (SemWp.post ?_)
     refine (drawW c (dps k1 T A k B) rfl E R (upto ops.size 0) (t:=splitB T (B ++ V k1 k2) ++ V k2 K) (hTake_app _ _) (by rw [upto_length]) c1 ⟨?_⟩).out
     have:=m3 (fun g ps=>∃ f',(fun t=>f'.get t)=g∧∃ s2,Subp s2 (ps.flatten ++ (splitB T (B ++ V k1 k2) ++ V k2 K))∧Q .normal f' s2) ⟨a1,rfl,_,(hend k0 hk0).subp,q⟩
     rw [Array.length_toList] at this
     exact this
    split at h
    ·rename_i hno
     simp only [Bool.and_eq_true] at hno
     injection h with e1 e2 e3 e4
     subst e1 e2 e3 e4
     exact ⟨Nat.le_refl _,hk,fin k (.inr ⟨rfl,Nat.eq_of_beq_eq_true hno.1,hno.2⟩)⟩
    ·injection h with e1 e2 e3 e4
     subst e1 e2 e3 e4
     exact ⟨by omega,hle,fin k2 (.inl rfl)⟩
end Go.Proofs.Hk

set_option linter.unusedVariables false
set_option linter.unusedSimpArgs false
namespace Go.Proofs.Hk
open Go
theorem refresh_sub:∀ a b:Fr,(refresh a b).Sub b
 |[],b=>Sub.nil b
 |(t,g0,x0)::a,b=>by
  simp only [refresh]
  cases h:fget b t with
  |none=>exact refresh_sub a b
  |some p=>
   obtain ⟨g,x⟩:=p
   exact Sub.cons ((fget_eq b t).trans h) rfl (refresh_sub a b)
/-! Results. -/
theorem cellIs_ok {c:Cx} {s t:HS} {ty:TypeId} {r off:Nat} {k:HV→Option (List HV)} {xs:List HV} (h:cellIs s (cload c ty (.ptr r off)) k=some xs):∃ y,k y=some xs∧∀ K:HV→Prop,K y→LoadIs c (s ++ t) ty r off K:=by
 unfold cload at h
 cases hd:c.ty ty with
 |none=>rw [hd] at h;cases h
 |some d=>
  rw [hd] at h
  simp only [cellIs] at h
  cases hy:sget s r with
  |none=>rw [hy] at h;cases h
  |some y=>
   rw [hy] at h
   cases y<;>simp only at h<;>(first|cases h|skip)
   rename_i cs t'
   have hg:=sget_append (t:=t) hy
   cases ha:d.isAgg with
   |true=>
    rw [ha] at h
    simp only at h
    cases hb:Nat.ble (off+d.size) cs.length with
    |false=>rw [hb] at h;cases h
    |true=>
     rw [hb] at h
     simp only [forceL_eq] at h
     exact ⟨_,h,fun K hK=>⟨cs,t',d,hg,hd,.inl ⟨ha,Nat.le_of_ble_eq_true hb,hK⟩⟩⟩
   |false=>
    rw [ha] at h
    simp only at h
    cases hx:cs[off]? with
    |none=>rw [hx] at h;cases h
    |some x=>
     rw [hx] at h
     simp only [cif] at h
     cases hk:kdOne x with
     |false=>rw [hk] at h;cases h
     |true=>
      rw [hk] at h
      exact ⟨_,h,fun K hK=>⟨cs,t',d,hg,hd,.inr ⟨ha,x,hx,hk,hK⟩⟩⟩
theorem consO_ok {x:HV} {q:Option (List HV)} {xs:List HV} (h:consO x q=some xs):∃ l,q=some l∧xs=x::l:=by
 cases q with
 |none=>cases h
 |some l=>cases h;exact ⟨l,rfl,rfl⟩
theorem evRes_ok {c:Cx} {a:Fr} {s t:HS} : ∀ {rs:List ResultVar} {xs:List HV},evRes c a s rs=some xs→∀ K:List HV→Prop,K xs→resG c a (s ++ t) rs K
 |[],xs,h,K,hK=>by
  have h:some []=some xs:=h
  cases h
  exact hK
 |.tmp u::l,xs,h,K,hK=>by
  simp only [evRes] at h
  split at h
  ·rename_i x hx
   obtain ⟨l',h1,rfl⟩:=consO_ok h
   exact ⟨x,(fget_eq a u).trans hx,evRes_ok h1 _ hK⟩
  ·cases h
 |.cell p ty::l,xs,h,K,hK=>by
  simp only [evRes] at h
  split at h
  ·rename_i r off hx
   obtain ⟨y,h1,h2⟩:=cellIs_ok (t:=t) h
   obtain ⟨l',h3,rfl⟩:=consO_ok h1
   exact ⟨r,off,(fget_eq a p).trans hx,h2 _ (evRes_ok h3 _ hK)⟩
  ·cases h
theorem evFin_ret {c:Cx} {fn:Func} {a:Fr} {s:HS} {k:Nat} {x:HV} {s':HS} {k':Nat} (h:evFin c fn a s k = .ret x s' k'):s'=s∧k'=k∧∃ xs,evRes c a s fn.results.toList=some xs∧x=tupOf xs:=by
 unfold evFin at h
 split at h
 ·rename_i xs e
  injection h with e1 e2 e3
  exact ⟨e2.symm,e3.symm,xs,e,e1.symm⟩
 ·cases h
theorem evFin_pan {c:Cx} {fn:Func} {a:Fr} {s:HS} {k:Nat} {x:HV} {s':HS} {k':Nat} (h:evFin c fn a s k = .pan x s' k'):False:=by
 unfold evFin at h
 split at h<;>cases h
theorem evFin_resQ {c:Cx} {fn:Func} {a:Fr} {s t:HS} {k:Nat} {x:HV} {s':HS} {k':Nat} (h:evFin c fn a s k = .ret x s' k') (R:HEnd→HS→Prop) (hR:R (.ret x) (s ++ t)):ResQ c fn.results.toList R a (s ++ t):=by
 obtain ⟨_,_,xs,h1,rfl⟩:=evFin_ret h
 exact evRes_ok h1 _ ⟨hR⟩
/-- What a callee is reckoned to. -/
def EndOk (c:Cx) (K:Nat) (f:FuncId) (xs:List HV) (s:HS) (k:Nat) (r:Rs):Prop:=
 (∀ x s' k',r = .ret x s' k'→k≤k'∧k'≤K∧HCalls c.P f xs (s ++ V k K) fun e st=>e = .ret x∧st=s' ++ V k' K)∧
  (∀ x s' k',r = .pan x s' k'→k≤k'∧k'≤K∧HCalls c.P f xs (s ++ V k K) fun e st=>e = .pan x∧st=s' ++ V k' K)
/-- Code, with loops over functions or without. -/
def SemB (c:Cx) (n:Nat) (code:Code) (Q:HExit→Fr→HS→Prop) (a:Fr) (s:HS):Prop:=(noRng code=true→SemWp c.P n code Q a s)∧SemM c.P n code Q a s
theorem SemB.of {c:Cx} {n:Nat} {code:Code} {Q:HExit→Fr→HS→Prop} {a:Fr} {s:HS} (h:SemWp c.P n code Q a s):SemB c n code Q a s:=⟨fun _=>h,.of h⟩
theorem noDef_noRng:∀ {x:Code},noDef x=true→noRng x=true
 |.skip,_=>rfl
 |.region _ _ _,_=>rfl
 |.seq x y,h=>by
  have h:(noDef x && noDef y)=true:=h
  show (noRng x && noRng y)=true
  rw [noDef_noRng (and_l h),noDef_noRng (and_r h)];rfl
 |.cond _ x y,h=>by
  have h:(noDef x && noDef y)=true:=h
  show (noRng x && noRng y)=true
  rw [noDef_noRng (and_l h),noDef_noRng (and_r h)];rfl
 |.block _ b,h=>noDef_noRng (x:=b) h
 |.loop b,h=>noDef_noRng (x:=b) h
 |.scope _,h=>by cases h
 |.rangeFunc _ _ _ _,h=>by cases h
 |.exit _,_=>rfl
 |.label _,_=>rfl
 |.goto _,h=>by cases h
 |.ret,_=>rfl
 |.refuse _,h=>by cases h
/-- The machine as it is known so far. -/
def CodeOk (c:Cx) (rec:Task→HS→Nat→Nat→Nat→Rs):Prop:=
 ∀ n code a s k K d e a' s' k',rec (.code n code a) s k K d = .ok e a' s' k'→k≤K→k≤k'∧k'≤K∧∀ Q:HExit→Fr→HS→Prop,Q e a' (s' ++ V k' K)→SemB c n code Q a (s ++ V k K)
def RecOk (c:Cx) (rec:Task→HS→Nat→Nat→Nat→Rs):Prop:=
 CodeOk c rec∧∀ K d,CallOk c K (fun f xs s k=>rec (.call f xs) s k K d)
/-! Defers. -/
theorem sures_hop {a:Fr} : ∀ {xs:List Operand} {vs:List HV},sures a xs=some vs→∀ k:List HV→OpRes,argsM a xs k=k vs
 |[],vs,h,k=>by
  have h:some []=some vs:=h
  cases h
  rfl
 |x::xs,vs,h,k=>by
  simp only [sures] at h
  split at h
  ·rename_i v hv
   obtain ⟨l,h1,rfl⟩:=consO_ok h
   rw [←cev_eq] at hv
   simp only [argsM,arg,hv]
   exact sures_hop h1 _
  ·cases h
theorem deferOf_ok {c:Cx} {fn:Func} {a:Fr} {x:Code} {g:FuncId} {xs:List HV} {a':Fr} (h:deferOf c fn.ntmps a x=some ⟨g,xs,a'⟩) {R:HEnd→HS→Prop} {y:Code} {s:HS}
  (hy:SemWp c.P fn.ntmps y (EndD c fn R g xs) a' s):SemD c fn R (.seq x y) a s:=by
 unfold deferOf at h
 split at h
 ·rename_i id ops
  split at h
  ·rename_i o1 o2 hops
   have hops:ops = #[o1,o2]:=by rw [←Array.toArray_toList (xs:=ops),hops]
   subst hops
   split at h
   ·rename_i g' fi ca hop1
    split at h
    ·rename_i fi' ca' hfi hca
     split at h
     ·rename_i hact1
      split at h
      ·rename_i a1 hp1
       split at h
       ·rename_i hact2
        split at h
        ·rename_i t as ts hop2
         split at h
         ·rename_i hd2 has hk
          split at h
          ·rename_i d hd1
           split at h
           ·rename_i hdt
            simp only [Option.some.injEq,DefC.mk.injEq] at h
            obtain ⟨rfl,rfl,rfl⟩:=h
            have hdt:=Nat.eq_of_beq_eq_true hdt
            subst hdt
            have has:as = #[]:=by rw [←Array.toArray_toList (xs:=as),has]
            subst has
            have hx:hop c o1.op a s = .pure (.fn (.func g') fi' ca'):=by
             rw [hop1]
             simp only [hop]
             rw [sures_hop hfi,sures_hop hca]
            have hg:a1.get d=some (.sure,.fn (.func g') fi' ca'):=by
             unfold hput at hp1
             rw [hd1] at hp1
             simp only at hp1
             split at hp1
             ·cases hp1;simp [Fr.get]
             ·cases hp1
            exact semD_defer c d hact1 hx hp1 hact2 hop2 rfl rfl hd2 hg hk hy
           ·cases h
          ·cases h
         ·cases h
        ·cases h
       ·cases h
      ·cases h
     ·cases h
    ·cases h
   ·cases h
  ·cases h
 ·cases h
theorem recOf_ok {c:Cx} {g:FuncId} {xs:List HV} {v:HV} {r:RecC} (h:recOf c g xs v=some r):∃ fn id o1 o2 t cl a1,c.P.funcs[g]? = some fn∧fn.body=some (.seq (.region id #[o1,o2] false) (.cond (.tmp t) r.X .skip))∧fn.results = #[]∧Nat.ble xs.length fn.ntmps=true∧r.n=fn.ntmps∧
  o1.op = .call cl∧cl.callee = .builtin .recover∧cl.args = #[]∧active #[o1,o2] (initFr xs 0) o1=some .sure∧hput fn.ntmps o1.dst .sure v (initFr xs 0)=some a1∧active #[o1,o2] a1 o2=some .sure∧
  cop c o2.op a1 = .val (.v (.bool r.yes))∧nilTest a1 o2.op=true∧hput fn.ntmps o2.dst .sure (.v (.bool r.yes)) a1=some r.a∧r.a.get t=some (.sure,.v (.bool r.yes)):=by
 unfold recOf at h
 split at h
 ·cases h
 ·rename_i fn hfn
  split at h
  ·rename_i id ops t X hbody
   split at h
   ·rename_i o1 o2 hops hres hn
    have hops:ops = #[o1,o2]:=by rw [←Array.toArray_toList (xs:=ops),hops]
    subst hops
    have hres:fn.results = #[]:=by rw [←Array.toArray_toList (xs:=fn.results),hres]
    split at h
    ·rename_i as ts hop1
     split at h
     ·rename_i a1 has hact1 hp1
      have has:as = #[]:=by rw [←Array.toArray_toList (xs:=as),has]
      subst has
      split at h
      ·rename_i hact2
       split at h
       ·rename_i b hc2 hnil
        split at h
        ·rename_i a2 hp2
         split at h
         ·rename_i b' hg
          rw [←fget_eq] at hg
          split at h
          ·simp only [Option.some.injEq] at h
           subst h
           exact ⟨fn,id,o1,o2,t,_,a1,hfn,hbody,hres,hn,rfl,hop1,rfl,rfl,hact1,hp1,hact2,hc2,hnil,hp2,hg⟩
          ·simp only [Option.some.injEq] at h
           subst h
           exact ⟨fn,id,o1,o2,t,_,a1,hfn,hbody,hres,hn,rfl,hop1,rfl,rfl,hact1,hp1,hact2,hc2,hnil,hp2,hg⟩
          ·cases h
         ·cases h
        ·cases h
       ·cases h
      ·cases h
     ·cases h
    ·cases h
   ·cases h
  ·cases h
theorem nilTest_hop {c:Cx} {s:HS} {a:Fr} {o:Op} {x:HV} (h:cop c o a = .val x) (hn:nilTest a o=true):hop c o a s = .pure x:=by
 cases o<;>(first|(cases hn;done)|skip)
 rename_i op t x0 y z
 simp only [nilTest,Bool.and_eq_true] at hn
 have hA:=cop_ok c (.binOp op t x0 y z) a s
 rw [h] at hA
 simp only [hop,hn.1] at hA ⊢
 have h2:=hn.2
 unfold isSureO at h2
 split at h2
 ·rename_i u hu
  rw [←cev_eq] at hu
  simp only [arg,hu] at hA ⊢
  have:∀ φ y,hifaceNil c op t u≠.val φ y:=fun φ y e=>by
   unfold hifaceNil at e
   split at e
   ·split at e
    ·cases op<;>simp only [hifaceEq] at e<;>cases e
    ·cases op<;>simp only [hifaceEq] at e<;>cases e
    ·cases e
   ·cases e
  generalize hifaceNil c op t u=q at hA this ⊢
  cases hA with
  |pure=>rfl
  |val hφ=>exact absurd rfl (this _ _)
 ·cases h2
theorem noPan_ok {c:Cx} {fn:Func} {g:FuncId} {xs:List HV} {a:Fr} {s t:HS} {k:Nat} {x:HV} {s':HS} {k':Nat} (h:evNoPan c fn g xs a s k = .ret x s' k'):evFin c fn a s k = .ret x s' k'∧DRet c g xs (s ++ t) (s ++ t):=by
 unfold evNoPan at h
 split at h
 ·rename_i m X a2 hr
  obtain ⟨fn',id,o1,o2,u,cl,a1,h1,h2,h3,h4,h5,h6,h7,h8,h9,h10,h11,h12,h13,h14,h15⟩:=recOf_ok hr
  exact ⟨h,dret_rec c h1 h2 h3 h4 h6 h7 h8 h9 h10 h11 (nilTest_hop h12 h13) h14 h15⟩
 ·cases h
theorem noPan_pan {c:Cx} {fn:Func} {g:FuncId} {xs:List HV} {a:Fr} {s:HS} {k:Nat} {x:HV} {s':HS} {k':Nat} (h:evNoPan c fn g xs a s k = .pan x s' k'):False:=by
 unfold evNoPan at h
 split at h
 ·exact evFin_pan h
 ·cases h
theorem didPan_ok {c:Cx} {rec:Task→HS→Nat→Nat→Nat→Rs} (hrec:CodeOk c rec) {K d:Nat} {fn:Func} {g:FuncId} {xs:List HV} {v:HV} {a:Fr} {s:HS} {k:Nat} {x:HV} {s':HS} {k':Nat} (hk:k≤K)
  (h:evDidPan c fn (fun t s k=>rec t s k K d) g xs v a s k = .ret x s' k'):∃ s1 k1,k≤k1∧k1≤K∧evFin c fn a s1 k1 = .ret x s' k'∧DPan c g xs v (s ++ V k K) (s1 ++ V k1 K):=by
 unfold evDidPan at h
 split at h
 ·rename_i m X a2 hr
  obtain ⟨fn',id,o1,o2,u,cl,a1,h1,h2,h3,h4,h5,h6,h7,h8,h9,h10,h11,h12,h13,h14,h15⟩:=recOf_ok hr
  split at h
  ·cases h
  rename_i hX
  split at h
  ·rename_i a3 s1 k1 hrun
   obtain ⟨q1,q2,q3⟩:=hrec _ _ _ _ _ _ _ _ _ _ _ hrun hk
   have h5:m=fn'.ntmps:=h5
   subst h5
   exact ⟨s1,k1,q1,q2,h,dpan_rec c h1 h2 h3 h4 h6 h7 h8 h9 h10 h11 (nilTest_hop h12 h13) h14 h15 ((q3 _ ⟨rfl,Subp.refl _⟩).1 hX)⟩
  ·cases h
  ·cases h
 ·cases h
theorem didPan_pan {c:Cx} {fn:Func} {rec:Task→HS→Nat→Rs} {g:FuncId} {xs:List HV} {v:HV} {a:Fr} {s:HS} {k:Nat} {x:HV} {s':HS} {k':Nat} (h:evDidPan c fn rec g xs v a s k = .pan x s' k'):False:=by
 unfold evDidPan at h
 split at h
 ·split at h
  ·cases h
  split at h
  ·exact evFin_pan h
  ·cases h
  ·cases h
 ·cases h
/-- A function with a defer, from its body on. -/
def DefOk (c:Cx) (fn:Func) (K:Nat) (code:Code) (a:Fr) (s:HS) (k:Nat) (r:Rs):Prop:=
 (∀ x s' k',r = .ret x s' k'→k≤k'∧k'≤K∧SemD c fn (fun e st=>e = .ret x∧st=s' ++ V k' K) code a (s ++ V k K))∧
  (∀ x s' k',r = .pan x s' k'→k≤k'∧k'≤K∧SemD c fn (fun e st=>e = .pan x∧st=s' ++ V k' K) code a (s ++ V k K))
theorem evDefer_ok {c:Cx} {rec:Task→HS→Nat→Nat→Nat→Rs} (hrec:CodeOk c rec) {K d:Nat} {fn:Func} : ∀ (code:Code) (a:Fr) (s:HS) (k:Nat),noRng code=true→k≤K→DefOk c fn K code a s k (evDefer c fn (fun t s k=>rec t s k K d) code a s k)
 |.seq x y,a,s,k,hng,hk=>by
  have hng:(noRng x && noRng y)=true:=hng
  have hx0:=and_l hng
  have hy0:=and_r hng
  simp only [evDefer]
  cases hd:deferOf c fn.ntmps a x with
  |some dc=>
   obtain ⟨g,xs,a'⟩:=dc
   simp only
   have go:∀ (w:HV) (s':HS) (k':Nat),evDeferred c fn (fun t s k=>rec t s k K d) g xs (rec (.code fn.ntmps y a') s k K d) = .ret w s' k'→k≤k'∧k'≤K∧SemD c fn (fun e st=>e = .ret w∧st=s' ++ V k' K) (.seq x y) a (s ++ V k K):=by
    intro w s' k' h
    unfold evDeferred at h
    split at h
    ·rename_i a1 s1 k1 hr
     obtain ⟨q1,q2,q3⟩:=hrec _ _ _ _ _ _ _ _ _ _ _ hr hk
     obtain ⟨p1,p2⟩:=noPan_ok (t:=V k1 K) h
     obtain ⟨e1,e2,_⟩:=evFin_ret p1
     subst e1 e2
     exact ⟨q1,q2,deferOf_ok hd ((q3 _ ⟨_,p2,evFin_resQ p1 _ ⟨rfl,rfl⟩⟩).1 hy0)⟩
    ·rename_i a1 s1 k1 hr
     obtain ⟨q1,q2,q3⟩:=hrec _ _ _ _ _ _ _ _ _ _ _ hr hk
     obtain ⟨p1,p2⟩:=noPan_ok (t:=V k1 K) h
     obtain ⟨e1,e2,_⟩:=evFin_ret p1
     subst e1 e2
     exact ⟨q1,q2,deferOf_ok hd ((q3 _ ⟨_,p2,evFin_resQ p1 _ ⟨rfl,rfl⟩⟩).1 hy0)⟩
    ·rename_i v a1 s1 k1 hr
     obtain ⟨q1,q2,q3⟩:=hrec _ _ _ _ _ _ _ _ _ _ _ hr hk
     obtain ⟨s2,k2,p1,p2,p3,p4⟩:=didPan_ok hrec q2 h
     obtain ⟨e1,e2,_⟩:=evFin_ret p3
     subst e1 e2
     exact ⟨by omega,p2,deferOf_ok hd ((q3 _ ⟨_,p4,evFin_resQ p3 _ ⟨rfl,rfl⟩⟩).1 hy0)⟩
    ·cases h
    ·cases h
   refine ⟨go,fun w s' k' h=>?_⟩
   unfold evDeferred at h
   split at h
   ·exact (noPan_pan h).elim
   ·exact (noPan_pan h).elim
   ·exact (didPan_pan h).elim
   ·cases h
   ·cases h
  |none=>
   simp only
   have key:∀ (w:HEnd) (s':HS) (k':Nat),(∃ z,w = .ret z∧evAhead c fn (evDefer c fn (fun t s k=>rec t s k K d) y) (rec (.code fn.ntmps x a) s k K d) = .ret z s' k'∨w = .pan z∧evAhead c fn (evDefer c fn (fun t s k=>rec t s k K d) y) (rec (.code fn.ntmps x a) s k K d) = .pan z s' k')→
     k≤k'∧k'≤K∧SemD c fn (fun e st=>e=w∧st=s' ++ V k' K) (.seq x y) a (s ++ V k K):=by
    rintro w s' k' ⟨z,h⟩
    cases hr:rec (.code fn.ntmps x a) s k K d with
    |out _ _=>rw [hr] at h;rcases h with ⟨_,h⟩|⟨_,h⟩<;>cases h
    |ret _ _ _=>rw [hr] at h;rcases h with ⟨_,h⟩|⟨_,h⟩<;>cases h
    |pan _ _ _=>rw [hr] at h;rcases h with ⟨_,h⟩|⟨_,h⟩<;>cases h
    |ok e a1 s1 k1=>
     rw [hr] at h
     obtain ⟨q1,q2,q3⟩:=hrec _ _ _ _ _ _ _ _ _ _ _ hr hk
     cases e with
     |exit j=>rcases h with ⟨_,h⟩|⟨_,h⟩<;>cases h
     |normal=>
      have ih:=evDefer_ok (d:=d) (fn:=fn) hrec y a1 s1 k1 hy0 q2
      rcases h with ⟨rfl,h⟩|⟨rfl,h⟩
      ·obtain ⟨r1,r2,r3⟩:=ih.1 _ _ _ h
       exact ⟨by omega,r2,semD_seq c ((q3 _ ⟨r3⟩).1 hx0)⟩
      ·obtain ⟨r1,r2,r3⟩:=ih.2 _ _ _ h
       exact ⟨by omega,r2,semD_seq c ((q3 _ ⟨r3⟩).1 hx0)⟩
     |ret=>
      rcases h with ⟨rfl,h⟩|⟨rfl,h⟩
      ·have h:evFin c fn a1 s1 k1 = .ret z s' k':=h
       obtain ⟨e1,e2,_⟩:=evFin_ret h
       subst e1 e2
       exact ⟨q1,q2,semD_seq c ((q3 _ ⟨evFin_resQ h _ ⟨rfl,rfl⟩⟩).1 hx0)⟩
      ·exact (evFin_pan (show evFin c fn a1 s1 k1 = .pan z s' k' from h)).elim
     |pan v=>
      rcases h with ⟨rfl,h⟩|⟨rfl,h⟩
      ·cases h
      ·have h:Rs.pan v s1 k1 = .pan z s' k':=h
       injection h with e1 e2 e3
       subst e1 e2 e3
       exact ⟨q1,q2,semD_seq c ((q3 _ ⟨⟨rfl,rfl⟩⟩).1 hx0)⟩
   exact ⟨fun w s' k' h=>key (.ret w) s' k' ⟨w,.inl ⟨rfl,h⟩⟩,fun w s' k' h=>key (.pan w) s' k' ⟨w,.inr ⟨rfl,h⟩⟩⟩
 |.skip,_,_,_,_,_=>⟨fun _ _ _ h=>by simp [evDefer] at h,fun _ _ _ h=>by simp [evDefer] at h⟩
 |.region _ _ _,_,_,_,_,_=>⟨fun _ _ _ h=>by simp [evDefer] at h,fun _ _ _ h=>by simp [evDefer] at h⟩
 |.cond _ _ _,_,_,_,_,_=>⟨fun _ _ _ h=>by simp [evDefer] at h,fun _ _ _ h=>by simp [evDefer] at h⟩
 |.block _ _,_,_,_,_,_=>⟨fun _ _ _ h=>by simp [evDefer] at h,fun _ _ _ h=>by simp [evDefer] at h⟩
 |.loop _,_,_,_,_,_=>⟨fun _ _ _ h=>by simp [evDefer] at h,fun _ _ _ h=>by simp [evDefer] at h⟩
 |.rangeFunc _ _ _ _,_,_,_,_,_=>⟨fun _ _ _ h=>by simp [evDefer] at h,fun _ _ _ h=>by simp [evDefer] at h⟩
 |.exit _,_,_,_,_,_=>⟨fun _ _ _ h=>by simp [evDefer] at h,fun _ _ _ h=>by simp [evDefer] at h⟩
 |.scope _,_,_,_,_,_=>⟨fun _ _ _ h=>by simp [evDefer] at h,fun _ _ _ h=>by simp [evDefer] at h⟩
 |.label _,_,_,_,_,_=>⟨fun _ _ _ h=>by simp [evDefer] at h,fun _ _ _ h=>by simp [evDefer] at h⟩
 |.goto _,_,_,_,_,_=>⟨fun _ _ _ h=>by simp [evDefer] at h,fun _ _ _ h=>by simp [evDefer] at h⟩
 |.ret,_,_,_,_,_=>⟨fun _ _ _ h=>by simp [evDefer] at h,fun _ _ _ h=>by simp [evDefer] at h⟩
 |.refuse _,_,_,_,_,_=>⟨fun _ _ _ h=>by simp [evDefer] at h,fun _ _ _ h=>by simp [evDefer] at h⟩
end Go.Proofs.Hk

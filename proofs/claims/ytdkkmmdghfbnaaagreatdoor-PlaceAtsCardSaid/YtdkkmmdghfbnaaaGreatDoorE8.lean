import Derived.Test.YtdkkmmdghfbnaaaGreatDoorE6
set_option linter.unusedVariables false
set_option linter.unusedSimpArgs false
namespace Go.Proofs.Hk
open Go
/-! What is reckoned is sound. First the operations. -/
theorem carg_only {S:List Tmp} {a:Fr} {x:Operand} {k:HV→OpC} (h:∀ t,x = .tmp t→memN t S=true):carg (Fr.only S a) x k=carg a x k:=by
 simp only [carg,←cev_eq,ev_only h]
theorem cargsM_only {S:List Tmp} {a:Fr} : ∀ {xs:List Operand} {k:List HV→OpC},(∀ x∈xs,∀ t,x = .tmp t→memN t S=true)→cargsM (Fr.only S a) xs k=cargsM a xs k
 |[],k,_=>rfl
 |x::xs,k,h=>by
  simp only [cargsM]
  rw [carg_only (h x (by simp))]
  congr 1
  funext v
  exact cargsM_only fun y hy=>h y (by simp [hy])
theorem cop_only (c:Cx) {S:List Tmp} {a:Fr} {o:Op} (hn:newOp o=true) (h:∀ x∈o.operands,∀ t,x = .tmp t→memN t S=true):cop c o (Fr.only S a)=cop c o a:=by
 cases o<;>simp only [Op.operands,Call.operands] at h<;>(first|(exfalso;revert hn;simp [newOp];done)|skip)
 case alloc t=>rfl
 case box t x=>exact carg_only (h x (by simp))
 case makeSlice t x y=>
  show carg _ x _=carg a x _
  rw [carg_only (h x (by simp))]
  congr 1;funext v
  exact carg_only (h y (by simp))
 case makeMap t r=>
  cases r with
  |none=>rfl
  |some x=>exact carg_only (h _ (by simp))
 case call d=>
  obtain ⟨cal,args,ts⟩:=d
  cases cal with
  |value f=>exfalso;revert hn;simp [newOp]
  |invoke r m=>rfl
  |builtin b=>exact cargsM_only fun y hy=>h y (by simp at hy;simp [hy])
theorem Ans.to_val {P:Program} {s:HS} {G:Ghost} {w:World} {r:Result Next} {q:OpRes} {x:HV} (h:Ans s q (.val x)) (k:ResOK P s G w r q):Gives s G w r x s:=by
 cases h with
 |pure=>exact k
 |val hφ=>exact k hφ
theorem Ans.to_same {P:Program} {s:HS} {G:Ghost} {w:World} {r:Result Next} {q:OpRes} {x:HV} (h:Ans s q (.same x)) (k:ResOK P s G w r q):Gives s G w r x s:=by
 cases h with
 |same hW=>
  obtain ⟨y,s',⟨rfl,rfl⟩,g⟩:=k (fun y s'=>y=x∧s'=s) (hW _ ⟨rfl,rfl⟩)
  exact g
theorem Ans.to_upd {P:Program} {s:HS} {G:Ghost} {w:World} {r:Result Next} {q:OpRes} {x:HV} {i:Nat} {y:Res} (h:Ans s q (.upd x i y)) (k:ResOK P s G w r q):Gives s G w r x (hset s i y):=by
 cases h with
 |upd hW=>
  obtain ⟨y,s',⟨rfl,rfl⟩,g⟩:=k (fun y' s'=>y'=x∧s'=hset s i y) (hW _ ⟨rfl,rfl⟩)
  exact g
theorem Ans.to_look {P:Program} {s:HS} {G:Ghost} {w:World} {r:Result Next} {q:OpRes} {i:Nat} {k:Res→OpC} (h:Ans s q (.look i k)) (hk:ResOK P s G w r q) {y:Res} (hy:hget s i=some y):∃ q',Ans s q' (k y)∧ResOK P s G w r q':=by
 cases h with
 |look h=>exact ⟨_,h y,hk y hy⟩
theorem Ans.to_call {P:Program} {s:HS} {G:Ghost} {w:World} {r:Result Next} {q:OpRes} {f:FuncId} {xs:List HV} (h:Ans s q (.call f xs)) (k:ResOK P s G w r q):∃ vs:Array Value,r = .ok (.enter f vs) w∧relVs G xs vs.toList:=by
 cases h with
 |call hφ=>exact k hφ
theorem Ans.to_pan {P:Program} {s:HS} {G:Ghost} {w:World} {r:Result Next} {q:OpRes} {x:HV} (h:Ans s q (.pan x)) (k:ResOK P s G w r q):∃ u,r = .halt (.panic u) w∧rel G x u:=by
 cases h with
 |pan hφ=>exact k hφ
theorem sget_append {s t:HS} {r:Nat} {y:Res} (h:sget s r=some y):hget (s ++ t) r=some y:=by
 rw [sget_eq]
 induction s with
 |nil=>cases h
 |cons p s ih=>
  obtain ⟨q,x⟩:=p
  rw [List.cons_append,sget_cons]
  rw [sget_cons] at h
  cases e:Nat.beq q r with
  |true=>rw [e] at h;exact h
  |false=>rw [e] at h;exact ih h
theorem sset_append {s t:HS} {r:Nat} {y z:Res} (h:sget s r=some z):hset (s ++ t) r y=sset s r y ++ t:=by
 rw [sset_eq]
 induction s with
 |nil=>cases h
 |cons p s ih=>
  obtain ⟨q,x⟩:=p
  rw [List.cons_append,sset_cons,sset_cons]
  rw [sget_cons] at h
  cases e:Nat.beq q r with
  |true=>rfl
  |false=>rw [e] at h;simp only [ih h];rfl
theorem sget_mem {s:HS} {r:Nat} {y:Res} (h:sget s r=some y):(r,y)∈s:=hget_mem ((sget_eq s r).trans h)
section
variable (c:Cx) (n:Nat) (all:Array Oper)
/-- An operation turns m to m', whatever stands beside. -/
structure OpT (o:Oper) (a:Fr) (m:HS) (x:HV) (m':HS):Prop where
 out:∀ s0 G w ra,SRel G (m ++ s0) w→FRel G n (Fr.only (o.looksAt all) a) ra→OpTo c.P o ra w fun u w'=>∃ G',rel G' x u∧Post (m ++ s0) G w (m' ++ s0) G' w'
end
section
variable {c:Cx} {n:Nat} {all:Array Oper} {o:Oper} {a:Fr}
theorem OpT.val {x:HV} (h:cop c o.op a = .val x):OpT c n all o a [] x []:=
 ⟨fun s0 G w ra hs hf=>opTo_gives ((h ▸ cop_ok c o.op a s0).to_val (d2_sem (all:=all) hs hf))⟩
theorem OpT.same {x:HV} (h:cop c o.op a = .same x):OpT c n all o a [] x []:=
 ⟨fun s0 G w ra hs hf=>opTo_gives ((h ▸ cop_ok c o.op a s0).to_same (d2_sem (all:=all) hs hf))⟩
theorem OpT.look_val {r:Nat} {q:Res→OpC} {y:Res} {x:HV} {m:HS} (h:cop c o.op a = .look r q) (hm:sget m r=some y) (hq:q y = .val x):OpT c n all o a m x m:=
 ⟨fun s0 G w ra hs hf=>by
  obtain ⟨q',h1,h2⟩:=(h ▸ cop_ok c o.op a (m ++ s0)).to_look (d2_sem (all:=all) hs hf) (sget_append hm)
  exact opTo_gives ((hq ▸ h1).to_val h2)⟩
theorem OpT.look_same {r:Nat} {q:Res→OpC} {y:Res} {x:HV} {m:HS} (h:cop c o.op a = .look r q) (hm:sget m r=some y) (hq:q y = .same x):OpT c n all o a m x m:=
 ⟨fun s0 G w ra hs hf=>by
  obtain ⟨q',h1,h2⟩:=(h ▸ cop_ok c o.op a (m ++ s0)).to_look (d2_sem (all:=all) hs hf) (sget_append hm)
  exact opTo_gives ((hq ▸ h1).to_same h2)⟩
theorem OpT.look_upd {r r':Nat} {q:Res→OpC} {y y' z:Res} {x:HV} {m:HS} (h:cop c o.op a = .look r q) (hm:sget m r=some y) (hq:q y = .upd x r' y') (hz:sget m r'=some z):OpT c n all o a m x (sset m r' y'):=
 ⟨fun s0 G w ra hs hf=>by
  obtain ⟨q',h1,h2⟩:=(h ▸ cop_ok c o.op a (m ++ s0)).to_look (d2_sem (all:=all) hs hf) (sget_append hm)
  have:=(hq ▸ h1).to_upd h2
  rw [sset_append hz] at this
  exact opTo_gives this⟩
theorem OpT.new {X:Nat→HV} {Y:Nat→Res} (v:Nat) (hn:newOp o.op=true) (h:cop c o.op a = .new X Y):OpT c n all o a [(v,.void)] (X v) [(v,Y v)]:=
 ⟨fun s0 G w ra hs hf=>opTo_gives (cop_new c (s:=s0) hs hf o hn (by rw [cop_only c hn looksAt_op];exact h))⟩
theorem OpT.call {f:FuncId} {xs:List HV} {x:HV} {m m':HS} (h:cop c o.op a = .call f xs) (hc:HCalls c.P f xs m fun e st=>e = .ret x∧st=m'):OpT c n all o a m x m':=
 ⟨fun s0 G w ra hs hf=>by
  obtain ⟨vs,h1,h2⟩:=(h ▸ cop_ok c o.op a (m ++ s0)).to_call (d2_sem (all:=all) hs hf)
  exact opTo_call hs h1 h2 ((hc.frame s0).mono fun e s' ⟨s1,e1,e2,e3⟩=>⟨e2,by rw [e1,e3]⟩)⟩
theorem OpT.frame {m m':HS} {x:HV} (h:OpT c n all o a m x m') (r:HS):OpT c n all o a (m ++ r) x (m' ++ r):=
 ⟨fun s0 G w ra hs hf=>by
  rw [List.append_assoc] at hs ⊢
  rw [List.append_assoc]
  exact h.out (r ++ s0) G w ra hs hf⟩
theorem FRel.lean {G:Ghost} {ra:Act} (hf:FRel G n a ra) (S:List Tmp):FRel G n (Fr.only S a) ra:=
 ⟨hf.size,hf.defers,fun t g x e=>by
  rw [only_get] at e
  split at e
  ·exact hf.slots t g x e
  ·cases e⟩
end
/-- The rest of a region, in order. -/
structure OpsV (c:Cx) (n:Nat) (all:Array Oper) (Q:HExit→Fr→HS→Prop) (l:List Oper) (a:Fr) (s:HS):Prop where
 out:∀ s0 G0 w0,SRel G0 s0 w0→∀ i,all.toList.drop i=l→∀ G w ra,Post s0 G0 w0 s G w→FRel G n a ra→wpOpsY c.P all (Lift n s0 G0 w0 Q) (List.range' i l.length) ra w
section
variable {c:Cx} {n:Nat} {all:Array Oper} {Q:HExit→Fr→HS→Prop} {o:Oper} {l:List Oper} {a a':Fr} {s s':HS}
theorem OpsV.nil (h:Q .normal a s):OpsV c n all Q [] a s:=⟨fun _ _ _ _ _ _ G w ra hp hf=>⟨.normal,a,s,G,h,trivial,hf,hp⟩⟩
theorem drop_head {i:Nat} (h:all.toList.drop i=o::l):all[i]? = some o∧all.toList.drop (i+1)=l:=by
 constructor
 ·have:(all.toList.drop i)[0]? = some o:=by rw [h];rfl
  rw [List.getElem?_drop] at this
  simpa using this
 ·rw [←List.drop_drop,h];rfl
theorem active_want {tg:Tag} {G:Ghost} {ra:Act} (hf:FRel G n a ra) (h:active all a o=some tg):Region.wanted o (yielded all ra.tmps)=okTag tg:=by
 have:=active_ok hf h
 cases tg<;>exact this
theorem OpsV.cons {tg:Tag} {m m' r:HS} {x:HV} (hact:active all a o=some tg) (htg:okTag tg=true) (hT:OpT c n all o a m x m') (hp:s.Perm (m ++ r)) (hput':hput n o.dst .sure x a=some a') (hp':(m' ++ r).Perm s') (h:OpsV c n all Q l a' s'):OpsV c n all Q (o::l) a s:=
 ⟨fun s0 G0 w0 h0 i hi G w ra hpo hf=>by
  obtain ⟨hio,hil⟩:=drop_head hi
  simp only [List.length_cons,List.range'_succ,wpOpsY,hio]
  rw [active_want hf hact,htg,if_pos rfl]
  refine .inl ((hT.out r G w ra (hpo.srel.permd hp) (hf.lean _)).wp fun u w' ⟨G',hr,hq⟩=>?_)
  exact h.out s0 G0 w0 h0 (i+1) hil G' w' _ (hpo.trans h0 ((hq.permL hp.symm).permR hp')) ((hf.mono hq.ext.le).put hput' hr)⟩
theorem OpsV.off {tg:Tag} (hact:active all a o=some tg) (htg:okTag tg=false) (hput':hput n o.dst (.cond false) (.v (.bool false)) a=some a') (h:OpsV c n all Q l a' s):OpsV c n all Q (o::l) a s:=
 ⟨fun s0 G0 w0 h0 i hi G w ra hpo hf=>by
  obtain ⟨hio,hil⟩:=drop_head hi
  simp only [List.length_cons,List.range'_succ,wpOpsY,hio]
  rw [active_want hf hact,htg,if_neg (by simp)]
  exact h.out s0 G0 w0 h0 (i+1) hil G w _ hpo (hf.put hput' ⟨(fun e=>by cases e),fun _=>rfl⟩)⟩
theorem OpsV.callPan {tg:Tag} {f:FuncId} {xs:List HV} {x:HV} (hact:active all a o=some tg) (htg:okTag tg=true) (hc:cop c o.op a = .call f xs) (hcall:HCalls c.P f xs s fun e st=>e = .pan x∧st=s') (h:Q (.pan x) a s'):OpsV c n all Q (o::l) a s:=
 ⟨fun s0 G0 w0 h0 i hi G w ra hpo hf=>by
  obtain ⟨hio,hil⟩:=drop_head hi
  simp only [List.length_cons,List.range'_succ,wpOpsY,hio]
  rw [active_want hf hact,htg,if_pos rfl]
  refine .inl ?_
  obtain ⟨vs,h1,h2⟩:=(hc ▸ cop_ok c o.op a s).to_call (d2_sem (all:=all) hpo.srel (hf.lean _))
  unfold Oper.wpY
  rw [h1,Oper.uponY_enter]
  refine (hcall.out G w vs hpo.srel h2).mono fun e w' ⟨he,s1,G',⟨e1,e2⟩,hrel,hq⟩=>?_
  subst e1 e2
  cases e<;>first|exact hrel.elim|skip
  exact ⟨.pan x,a,s1,G',h,hrel,hf.mono hq.ext.le,hpo.trans h0 hq⟩⟩
theorem OpsV.pan {tg:Tag} {x:HV} (hact:active all a o=some tg) (htg:okTag tg=true) (hc:cop c o.op a = .pan x) (h:Q (.pan x) a s):OpsV c n all Q (o::l) a s:=
 ⟨fun s0 G0 w0 h0 i hi G w ra hpo hf=>by
  obtain ⟨hio,hil⟩:=drop_head hi
  simp only [List.length_cons,List.range'_succ,wpOpsY,hio]
  rw [active_want hf hact,htg,if_pos rfl]
  refine .inl ?_
  obtain ⟨u,h1,h2⟩:=(hc ▸ cop_ok c o.op a s).to_pan (d2_sem (all:=all) hpo.srel (hf.lean _))
  unfold Oper.wpY
  rw [h1,Oper.uponY_panic]
  exact ⟨.pan x,a,s,G,h,⟨u,rfl,h2⟩,hf,hpo⟩⟩
theorem OpsV.sem {id:Nat} (h:OpsV c n all Q all.toList a s):SemWp c.P n (.region id all false) Q a s:=
 ⟨fun G w ra hs hf=>wpB_region (by
  have:=h.out s G w hs 0 rfl G w ra (.refl hs) hf
  rw [List.range_eq_range',←Array.length_toList]
  exact this)⟩
end
theorem isNone_eq {α:Type} {x:Option α} (h:isNone x=true):x=none:=by
 cases x with
 |none=>rfl
 |some q=>cases h
theorem serase_perm {s:HS} {r:Nat} {y:Res} (h:sget s r=some y):s.Perm ((r,y)::serase s r):=by
 induction s with
 |nil=>cases h
 |cons p s ih=>
  obtain ⟨q,x⟩:=p
  rw [sget_cons] at h
  rw [serase_cons]
  cases e:Nat.beq q r with
  |true=>
   rw [e] at h
   have:=Nat.eq_of_beq_eq_true e
   subst this
   cases h
   exact .refl _
  |false=>
   rw [e] at h
   exact ((ih h).cons _).trans (List.Perm.swap _ _ _)
theorem sset_perm {s:HS} {r:Nat} {y z:Res} (h:sget s r=some y):(sset s r z).Perm ((r,z)::serase s r):=by
 induction s with
 |nil=>cases h
 |cons p s ih=>
  obtain ⟨q,x⟩:=p
  rw [sget_cons] at h
  rw [serase_cons,sset_cons]
  cases e:Nat.beq q r with
  |true=>
   have:=Nat.eq_of_beq_eq_true e
   subst this
   exact .refl _
  |false=>
   rw [e] at h
   exact ((ih h).cons _).trans (List.Perm.swap _ _ _)
theorem sures_rel {G:Ghost} {n:Nat} {a:Fr} {ra:Act} (hf:FRel G n a ra):∀ {xs:List Operand} {vs:List HV},sures a xs=some vs→relVs G vs (xs.map ra.eval)
 |[],vs,h=>by
  have h:some []=some vs:=h
  cases h
  simp [relVs]
 |x::xs,vs,h=>by
  simp only [sures] at h
  split at h
  ·rename_i v hv
   rw [←cev_eq] at hv
   have hv:=ev_ok hf hv
   cases hx:sures a xs with
   |none=>rw [hx] at h;cases h
   |some l=>
    rw [hx] at h
    have h:some (v::l)=some vs:=h
    cases h
    rw [List.map_cons,relVs_cons]
    exact ⟨_,_,rfl,hv,sures_rel hf hx⟩
  ·cases h
theorem yldOf_ok {o:Op} {a:Fr} {r:Nat} {vs:List HV} (h:yldOf o a=some (r,vs)):∃ f xs ts,o = .call ⟨.value f,xs,ts⟩∧ev a f=some (.sure,.yld r)∧sures a xs.toList=some vs:=by
 unfold yldOf at h
 split at h
 ·rename_i f xs ts
  split at h
  ·rename_i r' hr
   split at h
   ·rename_i vs' hv
    cases h
    exact ⟨f,xs,ts,rfl,by rw [cev_eq];exact hr,hv⟩
   ·cases h
  ·cases h
 ·cases h
theorem sures_only {S:List Tmp} {a:Fr} : ∀ {xs:List Operand},(∀ x∈xs,∀ t,x = .tmp t→memN t S=true)→sures (Fr.only S a) xs=sures a xs
 |[],_=>rfl
 |x::xs,h=>by
  have h1:cev (Fr.only S a) x=cev a x:=by
   rw [←cev_eq,←cev_eq]
   cases x<;>first|rfl|skip
   rename_i t
   simp only [ev,only_get,h (.tmp t) (by simp) t rfl,if_true]
  simp only [sures,h1,sures_only fun x hx=>h x (List.mem_cons_of_mem _ hx)]
section
variable {c:Cx} {n:Nat} {all:Array Oper} {o:Oper} {a:Fr}
def RowOk (c:Cx) (n:Nat) (all:Array Oper) (o:Oper) (a:Fr) (q:RowC):Prop:=
 match q with
 |.no=>True
 |.val x=>OpT c n all o a [] x []
 |.app0 X Y=>∀ v,OpT c n all o a [(v,.void),(v+1,.void)] (X v) [(v,Y v)]
 |.app r k=>∀ y X Y v,k y=some (X,Y)→OpT c n all o a [(v,.void),(v+1,.void),(r,y)] (X v) [(v,Y v)]
 |.look r k=>∀ y x,k y=some x→OpT c n all o a [(r,y)] x [(r,y)]
 |.turn r k=>∀ y x z,k y=some (x,z)→OpT c n all o a [(r,y)] x [(r,z)]
theorem rElem_ok {t e:TypeId} {d:TyD} (h:rElem c t=some (e,d)):TyOK c.P e d∧∀ w,(underlying t).run c.P w = .ok (.slice e) w:=by
 unfold rElem at h
 split at h
 ·rename_i size bytes ag z e' hd
  split at h
  ·rename_i d' hd'
   cases h
   exact ⟨c.ty_ok _ d hd',fun w=>(c.ty_ok t _ hd).slice rfl⟩
  ·cases h
 ·cases h
theorem rowMade_ok {e:TypeId} {d:TyD} {m:Nat} {cs ys:List HV} {X:Nat→HV} {Y:Nat→Res} (h:rowMade e d m cs ys=some (X,Y)):(m+ys.length) * d.bytes≤140737488355328∧(X=fun v=>.row v (m+ys.length) d.size)∧Y=fun _=>.row (cs ++ ys.flatMap HV.cells) d.size e:=by
 unfold rowMade at h
 rw [forceN_eq] at h
 split at h
 ·rename_i hb
  rw [forceL_eq] at h
  injection h with h
  injection h with h1 h2
  exact ⟨Nat.le_of_ble_eq_true hb,h1.symm,h2.symm⟩
 ·cases h
/-- The operands of an operation, in the frame of what it looks at. -/
theorem rowArgs {G:Ghost} {ra:Act} {b:Builtin} {xs:Array Operand} {ts:Array TypeId} {vs:List HV} (hf:FRel G n (Fr.only (o.looksAt all) a) ra) (ho:o.op = .call ⟨.builtin b,xs,ts⟩) (h:sures a xs.toList=some vs) :
  ∃ (us:List Value) (cc:Array Bool),relVs G vs us∧∀ w,(execOp ra.eval o).run c.P w=(builtin b ts o.type cc us.toArray).run c.P w:=by
 have h1:=sures_rel hf (by rw [sures_only (xs:=xs.toList) fun x hx t e=>looksAt_op x (by rw [ho];simpa [Op.operands,Call.operands] using hx) t e];exact h)
 obtain ⟨dst,op,type,pos,after,guard⟩:=o
 simp only at ho
 subst ho
 refine ⟨xs.toList.map ra.eval,xs.map (fun|.const _=>true|_=>false),h1,fun w=>?_⟩
 simp only [execOp,resolve,invoke,pure_bind]
 rw [mapArr ra.eval xs]
 rfl
theorem app_op {xs:Array Operand} {ts:Array TypeId} {t u:TypeId} {x y:HV} {m m':HS} {z:HV} (ho:o.op = .call ⟨.builtin .append,xs,ts⟩) (hts:ts.toList=[t,u]) (h:sures a xs.toList=some [x,y])
  (k:∀ s0 G w p q ty,SRel G (m ++ s0) w→rel G x p→rel G y q→Gives (m ++ s0) G w ((do pure (Next.value (←Builtin.append_ #[t,u] ty #[p,q])):Sem Next).run c.P w) z (m' ++ s0)):OpT c n all o a m z m':=
 ⟨fun s0 G w ra hs hf=>by
  obtain ⟨us,cc,hr,run⟩:=rowArgs (c:=c) hf ho h
  simp only [relVs_cons] at hr
  obtain ⟨p,us',rfl,h1,q,us'',rfl,h2,h3⟩:=hr
  simp only [relVs] at h3
  subst h3
  have e:ts = #[t,u]:=by rw [←Array.toArray_toList (xs:=ts),hts]
  subst e
  refine opTo_gives ?_
  rw [run w]
  exact k s0 G w p q _ hs h1 h2⟩
theorem rowApp_ok {xs:Array Operand} {ts:Array TypeId} {t u:TypeId} {x y:HV} (ho:o.op = .call ⟨.builtin .append,xs,ts⟩) (hts:ts.toList=[t,u]) (h:sures a xs.toList=some [x,y]):RowOk c n all o a (rowApp c t u x y):=by
 unfold rowApp
 split
 ·rename_i r m sz
  split
  ·trivial
  ·rename_i e d he
   obtain ⟨hd,ht⟩:=rElem_ok he
   split
   ·trivial
   ·rename_i hc
    simp only [Bool.and_eq_true,Nat.blt_eq] at hc
    obtain ⟨⟨⟨hrow,hb⟩,hs⟩,hz⟩:=hc
    obtain ⟨du,hdu,hu⟩:=isRow_ok hrow
    have hz:=Nat.eq_of_beq_eq_true hz
    subst hz
    split
    ·trivial
    ·rename_i hm
     refine app_op ho hts h fun s0 G w p q ty hsr h1 h2=>?_
     obtain ⟨news,hsrc⟩:=more_ok c.P hsr h2 hm
     obtain ⟨b,cp,e1,e2,hle,rfl⟩:=rel_row h1
     exact ⟨_,w,G,.inl (by rw [Sem.run_bind,run_append_none ht hu hdu hd hsrc hle];rfl),h1,.refl hsr⟩
    ·rename_i z zs hm
     intro y' X Y v hy
     unfold rowOn at hy
     split at hy
     ·rename_i cs sz' t'
      split at hy
      ·rename_i hc
       simp only [Bool.and_eq_true] at hc
       obtain ⟨⟨c1,c2⟩,c3⟩:=hc
       have c1:=Nat.eq_of_beq_eq_true c1
       have c2:=Nat.eq_of_beq_eq_true c2
       have c3:=Nat.le_of_ble_eq_true c3
       subst c1 c2
       rw [forceN_eq] at hy
       obtain ⟨hfit,rfl,rfl⟩:=rowMade_ok hy
       refine app_op ho hts h fun s0 G w p q ty hsr h1 h2=>?_
       obtain ⟨news,hsrc⟩:=more_ok c.P hsr h2 hm
       exact row_app hsr ht hu hdu hd h1 c3 hsrc (by simp) hb hs hfit
      ·cases hy
     ·cases hy
 ·split
  ·trivial
  ·split
   ·trivial
   ·rename_i e d he
    obtain ⟨hd,ht⟩:=rElem_ok he
    split
    ·trivial
    ·rename_i hc
     simp only [Bool.and_eq_true,Nat.blt_eq] at hc
     obtain ⟨⟨hrow,hb⟩,hs⟩:=hc
     obtain ⟨du,hdu,hu⟩:=isRow_ok hrow
     split
     ·rename_i z zs hm
      unfold rowNew
      split
      ·rename_i X Y hy
       obtain ⟨hfit,rfl,rfl⟩:=rowMade_ok hy
       intro v
       refine app_op ho hts h fun s0 G w p q ty hsr h1 h2=>?_
       obtain ⟨news,hsrc⟩:=more_ok c.P hsr h2 hm
       have:=rel_v_eq h1
       subst this
       have:=row_nil (ty:=ty) hsr ht hu hdu hd hsrc (by simp) hb (by simpa using hfit)
       simpa using this
      ·trivial
     ·trivial
 ·trivial
theorem rowLen_ok {xs:Array Operand} {ts:Array TypeId} {t:TypeId} {x:HV} (ho:o.op = .call ⟨.builtin .len,xs,ts⟩) (hts:ts.toList=[t]) (h:sures a xs.toList=some [x]):RowOk c n all o a (rowLen c t x):=by
 unfold rowLen
 split
 ·rename_i r m sz
  split
  ·rename_i size bytes ag z e hd
   refine ⟨fun s0 G w ra hs hf=>?_⟩
   obtain ⟨us,cc,hr,run⟩:=rowArgs (c:=c) hf ho h
   simp only [relVs_cons] at hr
   obtain ⟨p,us',rfl,h1,h3⟩:=hr
   simp only [relVs] at h3
   subst h3
   have e:ts = #[t]:=by rw [←Array.toArray_toList (xs:=ts),hts]
   subst e
   refine opTo_gives ?_
   rw [run w]
   obtain ⟨b,cp,e1,e2,hle,rfl⟩:=rel_row h1
   have hu:=(c.ty_ok t _ hd).slice (w:=w) rfl
   have hl:(Builtin.len_ #[t] o.type #[.slice (some ⟨b,0,none⟩) m cp]).run c.P w = .ok (goInt m) w:=by simp [Builtin.len_,hu,goInt]
   exact ⟨.int .i64 (m:Int),w,G,.inl (show Sem.run c.P (do pure (Next.value (←Builtin.len_ #[t] o.type #[.slice (some ⟨b,0,none⟩) m cp])):Sem Next) w=_ by rw [Sem.run_bind,hl];rfl),rel_v G,.refl hs⟩
  ·trivial
 ·trivial
theorem nilCmp_ok {G:Ghost} {w:World} {t:TypeId} {x y:HV} {u v:Value} {b:Bool} (h:nilCmp c t x y=some b) (hu:rel G x u) (hv:rel G y v) :
  (∀ o',(o' = .eql∨o' = .neq)→(binOp o' t u v).run c.P w = .ok (.bool (if o' = .eql then b else !b)) w)∧∀ op ex ey,(eqGuard op t ex ey u v).run c.P w = .ok () w:=by
 unfold nilCmp at h
 split at h
 ·rename_i size bytes ag z hd
  obtain ⟨i,ud,_,hud,_,_,_,_,hsh,_⟩:=c.ty_ok _ _ hd
  obtain ⟨f1,f2,f3,rfl⟩:∃ f1 f2 f3,ud = .func f1 f2 f3:=by cases ud<;>simp [shOK] at hsh ⊢
  split at h
  ·split at h
   ·cases h
    obtain ⟨p,q,rfl,_⟩:=rel_fn hu
    have:=rel_v_eq hv
    subst this
    have k1:∀ f,(Op.equalIn 10000 t (.func f p q) .nilFunc).run c.P w = .ok false w:=fun f=>by
     unfold Op.equalIn
     simp [run_underlying hud]
    refine ⟨fun o' ho=>?_,fun op ex ey=>by cases op<;>simp [eqGuard]⟩
    rcases ho with rfl|rfl<;>simp_all [binOp,Op.equal,Op.maxDepth]
   ·cases h
  ·cases h
 ·rename_i size bytes ag z e hd
  obtain ⟨i,ud,_,hud,_,_,_,_,hsh,_⟩:=c.ty_ok _ _ hd
  obtain ⟨f1,rfl⟩:∃ f1,ud = .slice f1:=by cases ud<;>simp [shOK] at hsh ⊢
  split at h
  ·have:=rel_v_eq hv
   subst this
   have fin:∀ a n k,(Op.equalIn 10000 t (.slice (some a) n k) (.slice none 0 0)).run c.P w = .ok false w:=fun a n k=>by
    unfold Op.equalIn
    simp [run_underlying hud]
   split at h
   ·cases h
    rcases rel_list hu with ⟨e,_⟩|⟨b',o',c',rfl,_⟩|⟨e,_⟩
    ·cases e
    ·refine ⟨fun o' ho=>?_,fun op ex ey=>by cases op<;>simp [eqGuard]⟩
     rcases ho with rfl|rfl<;>simp_all [binOp,Op.equal,Op.maxDepth]
    ·cases e
   ·cases h
    obtain ⟨b',c',_,_,_,rfl⟩:=rel_row hu
    refine ⟨fun o' ho=>?_,fun op ex ey=>by cases op<;>simp [eqGuard]⟩
    rcases ho with rfl|rfl<;>simp_all [binOp,Op.equal,Op.maxDepth]
   ·cases h
    have:=rel_v_eq hu
    subst this
    have fin2:(Op.equalIn 10000 t (.slice none 0 0) (.slice none 0 0)).run c.P w = .ok true w:=by
     unfold Op.equalIn
     simp [run_underlying hud]
    refine ⟨fun o' ho=>?_,fun op ex ey=>by cases op<;>simp [eqGuard]⟩
    rcases ho with rfl|rfl<;>simp_all [binOp,Op.equal,Op.maxDepth]
   ·cases h
  ·cases h
 ·rename_i size bytes ag z e hd
  obtain ⟨i,ud,_,hud,_,_,_,_,hsh,_⟩:=c.ty_ok _ _ hd
  obtain ⟨f1,rfl⟩:∃ f1,ud = .pointer f1:=by cases ud<;>simp [shOK] at hsh ⊢
  split at h
  ·have:=rel_v_eq hv
   subst this
   split at h
   ·cases h
    obtain ⟨b',_,rfl⟩:=rel_ptr hu
    have fin:∀ a,(Op.equalIn 10000 t (.pointer (some a)) (.pointer none)).run c.P w = .ok false w:=fun a=>by
     unfold Op.equalIn
     simp [run_underlying hud]
    refine ⟨fun o' ho=>?_,fun op ex ey=>by cases op<;>simp [eqGuard]⟩
    rcases ho with rfl|rfl<;>simp_all [binOp,Op.equal,Op.maxDepth]
   ·cases h
    have:=rel_v_eq hu
    subst this
    have fin2:(Op.equalIn 10000 t (.pointer none) (.pointer none)).run c.P w = .ok true w:=by
     unfold Op.equalIn
     simp [run_underlying hud]
    refine ⟨fun o' ho=>?_,fun op ex ey=>by cases op<;>simp [eqGuard]⟩
    rcases ho with rfl|rfl<;>simp_all [binOp,Op.equal,Op.maxDepth]
   ·cases h
  ·cases h
 ·cases h
theorem funNil_ok {op:BinOp} {t:TypeId} {ex ey:Operand} {yt:TypeId} {x y:HV} (ho:o.op = .binOp op t ex ey yt) (hx:cev a ex=some (.sure,x)) (hy:cev a ey=some (.sure,y)):RowOk c n all o a (funNil c op t x y):=by
 unfold funNil
 split
 ·rename_i b hb
  split
  ·rename_i g hg
   refine ⟨fun s0 G w ra hs hf=>?_⟩
   have lk:∀ z,z∈[ex,ey]→ev (Fr.only (o.looksAt all) a) z=ev a z:=fun z hz=>by
    cases z<;>first|rfl|skip
    rename_i t'
    have:=looksAt_op (ops:=all) (o:=o) (.tmp t') (by rw [ho];simpa [Op.operands] using hz) t' rfl
    simp only [ev,only_get,this,if_true]
   have h1:rel G x (ra.eval ex):=ev_ok hf ((lk ex (by simp)).trans ((cev_eq a ex).trans hx))
   have h2:rel G y (ra.eval ey):=ev_ok hf ((lk ey (by simp)).trans ((cev_eq a ey).trans hy))
   obtain ⟨k2,k3⟩:=nilCmp_ok (w:=w) hb h1 h2
   refine opTo_gives ?_
   obtain ⟨dst,op',type,pos,after,guard⟩:=o
   simp only at ho
   subst ho
   refine ⟨_,w,G,.inl ?_,rel_v G,.refl hs⟩
   have run:(execOp ra.eval ⟨dst,.binOp op t ex ey yt,type,pos,after,guard⟩).run c.P w=(do pure (Next.value (←(do eqGuard op t ex ey (ra.eval ex) (ra.eval ey);binOp op t (ra.eval ex) (ra.eval ey)))):Sem Next).run c.P w:=rfl
   rw [run]
   cases op<;>simp only [eqlB] at hg<;>cases hg
   ·simp only [Sem.run_bind,k3,Result.andThen_ok,k2 .eql (.inl rfl)]
    rfl
   ·simp only [Sem.run_bind,k3,Result.andThen_ok,k2 .neq (.inr rfl)]
    rfl
  ·trivial
 ·trivial
/-- What an operand is, in the frame of what its operation looks at. -/
theorem rowArg {G:Ghost} {ra:Act} {x:Operand} {v:HV} (hf:FRel G n (Fr.only (o.looksAt all) a) ra) (hx:x∈o.op.operands) (h:cev a x=some (.sure,v)):rel G v (ra.eval x):=by
 refine ev_ok hf (Eq.trans ?_ ((cev_eq a x).trans h))
 cases x<;>first|rfl|skip
 rename_i t
 have:=looksAt_op (ops:=all) (o:=o) (.tmp t) hx t rfl
 simp only [ev,only_get,this,if_true]
theorem rowLoad_ok {isR:Nat→Bool} {t:TypeId} {ep:Operand} {p:HV} (ho:o.op = .load t ep) (hp:cev a ep=some (.sure,p)):RowOk c n all o a (rowLoad c isR t p):=by
 unfold rowLoad
 split
 ·rename_i r off
  split
  ·split
   ·rename_i d hd
    intro y x hy
    unfold rowGet at hy
    split at hy
    ·rename_i cs sz t'
     have ht:=c.ty_ok t d hd
     refine ⟨fun s0 G w ra hs hf=>?_⟩
     obtain ⟨b,hb,e⟩:=rel_ptr (rowArg hf (by rw [ho];simp [Op.operands]) hp)
     obtain ⟨b',cp,vs,o1,o2,ro,hh,hsz,hlen,hcs,hK⟩:=hs.holds r (.row cs sz t') (by simp)
     rw [hb] at o1;cases o1
     have hl:=relCs_length hcs
     have hcell:∀ j,j < cs.length→w.cell? ⟨b,j,none⟩=(vs.toList.take cs.length)[j]?:=fun j hj=>by
      simp only [World.cell?,hh,Option.isSome_none,Bool.false_eq_true,if_false]
      rw [List.getElem?_take_of_lt hj,Array.getElem?_toList]
     have key:∀ {v:Value},(loadVar t ⟨b,off,none⟩).run c.P w = .ok v w→rel G x v→OpTo c.P o ra w fun u w'=>∃ G',rel G' x u∧Post ([(r,.row cs sz t')] ++ s0) G w ([(r,.row cs sz t')] ++ s0) G' w':=by
      intro v h hx
      refine opTo_gives ⟨v,w,G,.inl ?_,hx,.refl hs⟩
      obtain ⟨dst,op,type,pos,after,guard⟩:=o
      simp only at ho
      subst ho
      simp [execOp,e,Instr.loadAt,Instr.sureAddr,h]
     split at hy
     ·rename_i ha
      split at hy
      ·rename_i hle
       have hle:off+d.size≤cs.length:=Nat.le_of_ble_eq_true hle
       rw [forceL_eq] at hy
       injection hy with h1
       have hseg:=relCs_take d.size (relCs_drop off hcs)
       refine key (run_loadVar_agg (xs:=((vs.toList.take cs.length).drop off).take d.size) ht ha ?_ ?_) (h1 ▸ rel_agg hseg)
       ·simp only [List.length_take,List.length_drop] at hl ⊢;omega
       ·intro j hj
        have hj':j < d.size:=by simp only [List.length_take] at hj;omega
        rw [hcell _ (by omega),List.getElem?_take_of_lt hj',List.getElem?_drop]
      ·cases hy
     ·rename_i ha
      split at hy
      ·rename_i x' hx'
       split at hy
       ·rename_i hk
        injection hy with h1
        subst h1
        have hk:=kdOne_eq hk
        have hlt:=(List.getElem?_eq_some_iff.1 hx').1
        obtain ⟨v,hv,_,hr⟩:=relCs_get hcs off _ hx'
        exact key (run_loadVar_one ht ha ((hcell off hlt).trans hv)) (rel_leaf hr hk)
       ·cases hy
      ·cases hy
    ·cases hy
   ·trivial
  ·trivial
 ·trivial
theorem rowStore_ok {isR:Nat→Bool} {t:TypeId} {ep ex:Operand} {p x:HV} (ho:o.op = .store t ep ex) (hp:cev a ep=some (.sure,p)) (hx:cev a ex=some (.sure,x)):RowOk c n all o a (rowStore c isR t p x):=by
 unfold rowStore
 split
 ·rename_i r off
  split
  ·split
   ·rename_i d hd
    intro y x' z hy
    unfold rowPut at hy
    split at hy
    ·rename_i cs sz t'
     split at hy
     ·rename_i hc
      simp only [Bool.and_eq_true,Nat.beq_eq] at hc
      obtain ⟨⟨hk,hl⟩,hle⟩:=hc
      have hk:=kdOk_ne hk
      have hle:off+d.size≤cs.length:=Nat.le_of_ble_eq_true hle
      rw [forceL_eq] at hy
      injection hy with hy
      injection hy with h1 h2
      subst h1 h2
      have ht:=c.ty_ok t d hd
      refine ⟨fun s0 G w ra hs hf=>?_⟩
      obtain ⟨b,hb,e⟩:=rel_ptr (rowArg hf (by rw [ho];simp [Op.operands]) hp)
      have hxr:=rowArg hf (by rw [ho];simp [Op.operands]) hx
      obtain ⟨b',cp,vs,o1,o2,ro,hh,hsz,hlen,hcs,hK⟩:=hs.holds r (.row cs sz t') (by simp)
      rw [hb] at o1;cases o1
      generalize hv:ra.eval ex=v at *
      have hxc:=rel_cells hxr hk
      have hvl:v.cells.toList.length=d.size:=by rw [relCs_length hxc,hl]
      have hl2:=relCs_length hcs
      simp only [List.length_take] at hl2
      have run:=run_storeCells_at c.P b off t' v.cells.toList 0 vs w hh (by simp only [Nat.add_zero];rw [hvl];simp at hl2;omega) (fun x hx=>vkd_oneCell (relCs_one hxc x hx))
      refine opTo_gives ⟨undef,w.setRow b (vs.toList.take off ++ v.cells.toList ++ vs.toList.drop (off+d.size)).toArray,G,.inr ⟨?_,rfl⟩,⟨rfl,?_⟩,?_⟩
      ·obtain ⟨dst,op,type,pos,after,guard⟩:=o
       simp only at ho
       subst ho
       have hsz2:¬ v.cells.size≠d.size:=by simp only [Array.length_toList] at hvl;omega
       simp only [execOp,e,hv,Instr.storeAt,Instr.sureAddr,storeVar,Sem.run_bind,pure_bind,ht.sizeOf,Result.andThen_ok,hsz2,if_false,run,Nat.add_zero,hvl]
       rfl
      ·simp only [relC];exact ⟨#[],rfl,by simp [relVs]⟩
      ·have hm:(r,Res.row cs sz t')∈([(r,Res.row cs sz t')] ++ s0:HS):=by simp
       have:=post_write (x:=.row (cs.take off ++ x.cells ++ cs.drop (off+d.size)) sz t') hs hh ro (List.mem_map.2 ⟨_,hm,rfl⟩) ?_ (.refl G) (fun _ _ _=>rfl) (fun o v e=>by rw [hK] at e;cases e) rfl rfl (fun _ _=>rfl) rfl (setRow_size w b (vs.toList.take off ++ v.cells.toList ++ vs.toList.drop (off+d.size)).toArray)
       ·rwa [List.singleton_append,hset_head] at this
       ·have hcl:(vs.toList.take off ++ v.cells.toList ++ vs.toList.drop (off+d.size)).toArray.size=vs.size:=by simp only [List.size_toArray,List.length_append,List.length_take,List.length_drop,Array.length_toList] at hvl hlen hl2 ⊢;omega
        have hnl:(cs.take off ++ x.cells ++ cs.drop (off+d.size)).length=cs.length:=by simp only [List.length_append,List.length_take,List.length_drop];omega
        refine ⟨b,cp,_,hb,o2,ro,setRow_heap w b vs _ t' _ hh,by rw [hcl];exact hsz,by rw [hcl,hnl];exact hlen,?_,hK⟩
        rw [hnl]
        have h3:=relCs_append (relCs_append (relCs_take off hcs) hxc) (relCs_drop (off+d.size) hcs)
        have:(vs.toList.take off ++ v.cells.toList ++ vs.toList.drop (off+d.size)).toArray.toList.take cs.length=(vs.toList.take cs.length).take off ++ v.cells.toList ++ (vs.toList.take cs.length).drop (off+d.size):=by
         have hk:(vs.toList.take off ++ v.cells.toList).length=off+d.size:=by simp only [List.length_append,List.length_take,hvl,Array.length_toList];simp only [Array.length_toList] at hl2;omega
         rw [show (vs.toList.take off ++ v.cells.toList ++ vs.toList.drop (off+d.size)).toArray.toList=(vs.toList.take off ++ v.cells.toList) ++ vs.toList.drop (off+d.size) from rfl,List.take_append,List.take_of_length_le (by omega),hk,List.take_take,Nat.min_eq_left (by omega),List.drop_take]
        rw [this]
        exact h3
     ·cases hy
    ·cases hy
   ·trivial
  ·trivial
 ·trivial
theorem rowAddr_ok {t:TypeId} {ex ei:Operand} {x i:HV} (ho:o.op = .indexAddr t ex ei) (hx:cev a ex=some (.sure,x)) (hi:cev a ei=some (.sure,i)):RowOk c n all o a (rowAddr c t x i):=by
 unfold rowAddr
 split
 ·rename_i r m sz
  split
  ·rename_i e d he
   obtain ⟨hd,ht⟩:=rElem_ok he
   split
   ·rename_i k j
    split
    ·rename_i hc
     simp only [Bool.and_eq_true,Nat.blt_eq] at hc
     obtain ⟨h1,h2⟩:=hc
     have h2:=Nat.eq_of_beq_eq_true h2
     subst h2
     rw [forceN_eq]
     refine ⟨fun s0 G w ra hs hf=>?_⟩
     obtain ⟨b,cp,e1,e2,hle,hu⟩:=rel_row (rowArg hf (by rw [ho];simp [Op.operands]) hx)
     have hi:=rel_v_eq (rowArg hf (by rw [ho];simp [Op.operands]) hi)
     refine opTo_gives ⟨.pointer (some ⟨b,j * d.size,none⟩),w,G,.inl ?_,ptr_rel e1,.refl hs⟩
     obtain ⟨dst,op,type,pos,after,guard⟩:=o
     simp only at ho
     subst ho
     have hlt:(0:Int)≤Int.ofNat j∧Int.ofNat j < (m:Int):=⟨Int.natCast_nonneg j,Int.ofNat_lt.2 h1⟩
     simp only [execOp,hu,hi,Instr.indexAt,asIntOf,Sem.run_bind,pure_bind,ht,Result.andThen_ok]
     rw [if_pos hlt]
     simp only [Sem.run_bind,hd.sizeOf,Result.andThen_ok,Sem.run_pure,add_plain,Nat.zero_add]
     rfl
    ·trivial
   ·trivial
  ·trivial
 ·trivial
theorem rowOp_ok (isR:Nat→Bool):RowOk c n all o a (rowOp c isR o.op a):=by
 unfold rowOp
 split
 ·rename_i b xs ts ho
  split
  ·rename_i vs hvs
   unfold rowCall
   split
   ·rename_i t u x y e1
    exact rowApp_ok ho e1 hvs
   ·rename_i t x e1
    exact rowLen_ok ho e1 hvs
   ·trivial
  ·trivial
 ·rename_i op t x y yt ho
  split
  ·rename_i y' hy
   split
   ·rename_i x' hx
    exact funNil_ok ho hx hy
   ·trivial
  ·trivial
 ·rename_i t p ho
  split
  ·rename_i p' hp
   exact rowLoad_ok ho hp
  ·trivial
 ·rename_i t p x ho
  split
  ·rename_i p' hp
   split
   ·rename_i x' hx
    exact rowStore_ok ho hp hx
   ·trivial
  ·trivial
 ·rename_i t x i ho
  split
  ·rename_i x' hx
   split
   ·rename_i i' hi
    exact rowAddr_ok ho hx hi
   ·trivial
  ·trivial
 ·trivial
end
theorem rel_yld {G:Ghost} {r:Nat} {u:Value} (h:rel G (.yld r) u):∃ b,G.om r=some b∧u = .func (.yield b) #[] #[]:=by
 obtain ⟨h1,_⟩:=leaf_of h rfl
 simp only [relC] at h1
 obtain ⟨b,e,h⟩:=h1
 exact ⟨b,e,by simpa using h⟩
theorem OpsV.round {c:Cx} {n:Nat} {all:Array Oper} {Q:HExit→Fr→HS→Prop} {o:Oper} {l:List Oper} {a a1:Fr} {s s0:HS} {tg:Tag} {r:Nat} {vs:List HV} {L:LoopR} {R:Bool→HS→Prop} (hact:active all a o=some tg) (htg:okTag tg=true) (hy:yldOf o.op a=some (r,vs)) (hs:s.Perm ((r,.loop L)::s0))
  (hb:L.busy=false) (hp:L.pend=none) (hd:noDef L.asg=true) (hd2:noDef L.bdy=true) (hps:putPs L.n L.ps.toList vs L.a=some a1)
  (h:SemWp c.P L.n L.asg (fun e a2 s2=>e = .normal∧SemWp c.P L.n L.bdy (roundQ r L R) a2 s2) a1 s0)
  (k:∀ t s',R t s'→∃ a',hput n o.dst .sure (.v (.bool t)) a=some a'∧OpsV c n all Q l a' s'):OpsV c n all Q (o::l) a s:=
 ⟨fun s1 G1 w1 h1 i hi G w ra hpo hf=>by
  obtain ⟨hio,hil⟩:=drop_head hi
  simp only [List.length_cons,List.range'_succ,wpOpsY,hio]
  rw [active_want hf hact,htg,if_pos rfl]
  refine .inl ?_
  obtain ⟨f,xs,ts,ho,hev,hsu⟩:=yldOf_ok hy
  have hvs:=sures_rel hf hsu
  obtain ⟨b,hb1,hb2⟩:=rel_yld (ev_ok hf hev)
  obtain ⟨b',fid,tmps,e1,e2,e3⟩:=round_ok (vs:=(xs.map ra.eval)) hb hp hd hd2 hps h (hpo.srel.permd hs) (by simpa using hvs)
  have hbb:b'=b:=by rw [e1] at hb1;cases hb1;rfl
  subst hbb
  unfold Oper.wpY
  have hrun:(execOp ra.eval o).run c.P w = .ok (.round b' fid tmps L.asg L.bdy) w:=by
   have hev:ra.eval f = .func (.yield b') #[] #[]:=hb2
   simp [execOp,ho,resolve,hev,Deferred.ofValue,invoke,Sem.run_bind,e2]
  rw [hrun]
  refine e3.mono fun e w' ⟨t,s',G',he,hR,hpost⟩=>?_
  subst he
  obtain ⟨a',ha',hk⟩:=k t s' hR
  exact hk.out s1 G1 w1 h1 (i+1) hil G' w' _ (hpo.trans h1 (hpost.permL hs.symm)) ((hf.mono hpost.ext.le).put ha' (show tagRel G' .sure (.v (.bool t)) (.bool t) from rel_leaf (by simp [relC,vkd]) rfl))⟩
theorem OpT.perm {c:Cx} {n:Nat} {all:Array Oper} {o:Oper} {a:Fr} {m m' m1 m1':HS} {x:HV} (h:OpT c n all o a m x m') (p:m1.Perm m) (p':m'.Perm m1'):OpT c n all o a m1 x m1':=
 ⟨fun s0 G w ra hs hf=>(h.out s0 G w ra (hs.permd (p.append_right s0)) hf).mono fun u w' ⟨G',hr,hp⟩=>⟨G',hr,(hp.permL (p.append_right s0).symm).permR (p'.append_right s0)⟩⟩
theorem OpT.at_same {c:Cx} {n:Nat} {all:Array Oper} {o:Oper} {a:Fr} {r:Nat} {y:Res} {x:HV} {s:HS} (h:OpT c n all o a [(r,y)] x [(r,y)]) (hs:sget s r=some y):OpT c n all o a s x s:=
 (h.frame (serase s r)).perm (serase_perm hs) (serase_perm hs).symm
theorem OpT.at_part {c:Cx} {n:Nat} {all:Array Oper} {o:Oper} {a:Fr} {r:Nat} {y z:Res} {x:HV} {s:HS} (h:OpT c n all o a [(r,y)] x [(r,z)]) (hs:sget s r=some y):OpT c n all o a s x (sset s r z):=
 (h.frame (serase s r)).perm (serase_perm hs) (sset_perm hs).symm
/-! Names that are kept free. -/
def V (k K:Nat):HS:=(List.range' k (K - k)).map fun r=>(r,Res.void)
theorem V_cons {k K:Nat} (h:k < K):V k K=(k,.void)::V (k+1) K:=by
 unfold V
 rw [show K - k=(K - (k+1))+1 from by omega,List.range'_succ]
 rfl
theorem V_split {k k1 K:Nat} (h1:k≤k1) (h2:k1≤K):V k K=V k k1 ++ V k1 K:=by
 unfold V
 rw [←List.map_append,show K - k=(k1 - k)+(K - k1) from by omega,List.range'_append_1.symm]
 congr 3
 omega
/-- What calls are reckoned to is so. -/
def CallOk (c:Cx) (K:Nat) (call:FuncId→List HV→HS→Nat→Rs):Prop:=
 ∀ f xs s k,k≤K→(∀ x s' k',call f xs s k = .ret x s' k'→k≤k'∧k'≤K∧HCalls c.P f xs (s ++ V k K) fun e st=>e = .ret x∧st=s' ++ V k' K)∧
  (∀ x s' k',call f xs s k = .pan x s' k'→k≤k'∧k'≤K∧HCalls c.P f xs (s ++ V k K) fun e st=>e = .pan x∧st=s' ++ V k' K)
/-- What pieces of code are reckoned to is so. -/
def CodOk (c:Cx) (K:Nat) (cod:Nat→Code→Fr→HS→Nat→Rs):Prop:=
 ∀ n code a s k e a' s' k',cod n code a s k = .ok e a' s' k'→k≤K→noDef code=true→k≤k'∧k'≤K∧∀ Q:HExit→Fr→HS→Prop,Q e a' (s' ++ V k' K)→SemWp c.P n code Q a (s ++ V k K)
theorem perm_swap1 (a:Nat × Res) (s t:HS):(s ++ a::t).Perm (a::(s ++ t)):=List.perm_middle
theorem perm_swap2 (s m t:HS) (a b:Nat × Res):(s ++ (m ++ a::b::t)).Perm (a::b::(m ++ (s ++ t))):=by
 refine (List.perm_append_comm_assoc s m _).trans ?_
 have h1:(s ++ a::b::t).Perm (a::b::(s ++ t)):=(perm_swap1 a s _).trans ((perm_swap1 b s t).cons a)
 refine (List.Perm.append_left m h1).trans ?_
 exact (perm_swap1 a m _).trans ((perm_swap1 b m _).cons a)
theorem OpT.app_at {c:Cx} {n:Nat} {all:Array Oper} {o:Oper} {a:Fr} {s m s0:HS} {i K:Nat} {x:HV} {y:Res} (hperm:s.Perm (m ++ s0)) (hlt:i+1 < K) (hT:OpT c n all o a ([(i,.void),(i+1,.void)] ++ m) x [(i,y)]):OpT c n all o a (s ++ V i K) x (((i,y)::s0) ++ V (i+2) K):=by
 rw [V_cons (show i < K by omega),V_cons hlt]
 refine (hT.frame (s0 ++ V (i+2) K)).perm ?_ (.refl _)
 refine (List.Perm.append_right _ hperm).trans ?_
 simp only [List.append_assoc,List.cons_append,List.nil_append]
 refine (List.perm_append_comm_assoc m s0 _).trans ?_
 exact perm_swap2 s0 m _ _ _
theorem put_ok {n:Nat} {o:Oper} {a:Fr} {g:Tag} {x:HV} {k:Fr→Rs} {e:HExit} {a':Fr} {s':HS} {k':Nat} (h:put n o a g x k = .ok e a' s' k'):∃ a1,hput n o.dst g x a=some a1∧k a1 = .ok e a' s' k':=by
 rw [put_eq] at h
 split at h
 ·rename_i a1 e;exact ⟨a1,e,h⟩
 ·cases h
/-- What goes on behind an operation. -/
def KOk (c:Cx) (n:Nat) (all:Array Oper) (K:Nat) (l:List Oper) (k:Fr→HS→Nat→Rs):Prop:=
 ∀ (a:Fr) (s:HS) (i:Nat) (e:HExit) (a':Fr) (s':HS) (i':Nat),k a s i = .ok e a' s' i'→i≤K→
  i≤i'∧i'≤K∧∀ Q:HExit→Fr→HS→Prop,Q e a' (s' ++ V i' K)→OpsV c n all Q l a (s ++ V i K)
theorem opTag_ok {c:Cx} {n:Nat} {all:Array Oper} {K:Nat} {l:List Oper} {k:Fr→HS→Nat→Rs} (hk:KOk c n all K l k) {cod:Nat→Code→Fr→HS→Nat→Rs} (hcod:CodOk c K cod) {call:FuncId→List HV→HS→Nat→Rs} (hcall:CallOk c K call) {o:Oper} {a:Fr} {s:HS} {i:Nat} {e:HExit} {a':Fr} {s':HS} {i':Nat}
  (h:opTag k call n K o a s i cod c (active all a o) = .ok e a' s' i') (hi:i≤K):i≤i'∧i'≤K∧∀ Q:HExit→Fr→HS→Prop,Q e a' (s' ++ V i' K)→OpsV c n all Q (o::l) a (s ++ V i K):=by
 cases hact:active all a o with
 |none=>rw [hact] at h;cases h
 |some tg=>
 rw [hact] at h
 have h:opOn k call n K o a s i cod c tg = .ok e a' s' i':=h
 unfold opOn at h
 cases htg:okTag tg with
 |false=>
  rw [htg] at h
  obtain ⟨a1,hp,h⟩:=put_ok (show put n o a (.cond false) (.v (.bool false)) (fun a'=>k a' s i)=_ from h)
  obtain ⟨h1,h2,h3⟩:=hk _ _ _ _ _ _ _ h hi
  exact ⟨h1,h2,fun Q q=>.off hact htg hp (h3 Q q)⟩
 |true=>
 rw [htg] at h
 have h:opAct k call n K o a s i cod c = .ok e a' s' i':=h
 have hrow:=rowOp_ok (c:=c) (n:=n) (all:=all) (o:=o) (a:=a) (isRowAt s)
 unfold opAct at h
 have app:∀ (X:Nat→HV) (Y:Nat→Res) (m s0:HS),s.Perm (m ++ s0)→(∀ v,OpT c n all o a ([(v,.void),(v+1,.void)] ++ m) (X v) [(v,Y v)])→opApp k n K o a i X Y s0 = .ok e a' s' i'→
   i≤i'∧i'≤K∧∀ Q:HExit→Fr→HS→Prop,Q e a' (s' ++ V i' K)→OpsV c n all Q (o::l) a (s ++ V i K):=by
  intro X Y m s0 hperm hT h
  unfold opApp at h
  cases hb:Nat.ble (Nat.succ (Nat.succ i)) K with
  |false=>rw [hb] at h;cases h
  |true=>
   rw [hb] at h
   have hlt:i+1 < K:=Nat.le_of_ble_eq_true hb
   obtain ⟨a1,hp,h⟩:=put_ok (show put n o a .sure (X i) (fun a'=>forceN (Nat.succ (Nat.succ i)) fun i2=>k a' ((i,Y i)::s0) i2)=_ from h)
   rw [forceN_eq] at h
   obtain ⟨h1,h2,h3⟩:=hk _ _ _ _ _ _ _ h hlt
   exact ⟨by omega,h2,fun Q q=>.cons hact htg (OpT.app_at hperm hlt (hT i)) (r:=[]) (by simp) hp (by simp) (h3 Q q)⟩
 cases hrw:rowOp c (isRowAt s) o.op a with
 |val x=>
  rw [hrw] at h hrow
  obtain ⟨a1,hp,h⟩:=put_ok h
  obtain ⟨h1,h2,h3⟩:=hk _ _ _ _ _ _ _ h hi
  exact ⟨h1,h2,fun Q q=>.cons hact htg hrow (r:=s ++ V i K) (.refl _) hp (.refl _) (h3 Q q)⟩
 |app0 X Y=>
  rw [hrw] at h hrow
  exact app X Y [] s (.refl _) (fun v=>by simpa using hrow v) h
 |app r q=>
  rw [hrw] at h hrow
  simp only at h
  cases hy:sget s r with
  |none=>rw [hy] at h;cases h
  |some y=>
   rw [hy] at h
   simp only [opAppOn] at h
   cases hz:q y with
   |none=>rw [hz] at h;cases h
   |some XY=>
    rw [hz] at h
    obtain ⟨X,Y⟩:=XY
    exact app X Y [(r,y)] (serase s r) (serase_perm hy) (fun v=>hrow y X Y v hz) h
 |look r q=>
  rw [hrw] at h hrow
  simp only at h
  cases hy:sget s r with
  |none=>rw [hy] at h;cases h
  |some y=>
   rw [hy] at h
   simp only [opSee] at h
   cases hz:q y with
   |none=>rw [hz] at h;cases h
   |some x=>
    rw [hz] at h
    obtain ⟨a1,hp,h⟩:=put_ok h
    obtain ⟨h1,h2,h3⟩:=hk _ _ _ _ _ _ _ h hi
    refine ⟨h1,h2,fun Q q'=>.cons hact htg (hrow y x hz) (r:=serase s r ++ V i K) ?_ hp ?_ (h3 Q q')⟩
    ·exact (List.Perm.append_right _ (serase_perm hy)).trans (by simp)
    ·exact ((List.Perm.append_right _ (serase_perm hy)).trans (by simp)).symm
 |turn r q=>
  rw [hrw] at h hrow
  simp only at h
  cases hy:sget s r with
  |none=>rw [hy] at h;cases h
  |some y=>
   rw [hy] at h
   simp only [opTurn] at h
   cases hz:q y with
   |none=>rw [hz] at h;cases h
   |some xz=>
    rw [hz] at h
    obtain ⟨x,z⟩:=xz
    obtain ⟨a1,hp,h⟩:=put_ok (show put n o a .sure x (fun a'=>forceL (sset s r z) fun s=>k a' s i)=_ from h)
    rw [forceL_eq] at h
    obtain ⟨h1,h2,h3⟩:=hk _ _ _ _ _ _ _ h hi
    refine ⟨h1,h2,fun Q q'=>.cons hact htg (hrow y x z hz) (r:=serase s r ++ V i K) ?_ hp ?_ (h3 Q q')⟩
    ·exact (List.Perm.append_right _ (serase_perm hy)).trans (by simp)
    ·exact ((List.Perm.append_right _ (sset_perm hy)).trans (by simp)).symm
 |no=>
 rw [hrw] at h
 have h:opAct0 k call n K o a s i cod c = .ok e a' s' i':=h
 unfold opAct0 at h
 cases hy:yldOf o.op a with
 |some p=>
  rw [hy] at h
  obtain ⟨r,vs⟩:=p
  have h:opYld k n o a s i cod r vs = .ok e a' s' i':=h
  unfold opYld at h
  split at h
  ·rename_i L hL
   unfold opYldGo at h
   split at h
   ·rename_i hc
    simp only [Bool.and_eq_true,Bool.not_eq_true'] at hc
    obtain ⟨⟨⟨c1,c2⟩,c3⟩,c4⟩:=hc
    have c2:=isNone_eq c2
    split at h
    ·rename_i a1 ha1
     cases hr1:cod L.n L.asg a1 (serase s r) i with
     |out w p=>rw [hr1] at h;cases h
     |ret x s k=>rw [hr1] at h;cases h
     |pan x s k=>rw [hr1] at h;cases h
     |ok e1 a2 s2 i2=>
      rw [hr1] at h
      cases e1 with
      |exit j=>cases h
      |ret=>cases h
      |pan v=>cases h
      |normal=>
       have h:opYldEnd k n o a r L (cod L.n L.bdy a2 s2 i2) = .ok e a' s' i':=h
       obtain ⟨p1,p2,p3⟩:=hcod _ _ _ _ _ _ _ _ _ hr1 hi c3
       cases hr2:cod L.n L.bdy a2 s2 i2 with
       |out w p=>rw [hr2] at h;cases h
       |ret x s k=>rw [hr2] at h;cases h
       |pan x s k=>rw [hr2] at h;cases h
       |ok e2 a3 s3 i3=>
        rw [hr2] at h
        obtain ⟨g1,g2,g3⟩:=hcod _ _ _ _ _ _ _ _ _ hr2 p2 c4
        have fin:∀ (t:Bool) (L':LoopR),put n o a .sure (.v (.bool t)) (fun a'=>k a' ((r,.loop L')::s3) i3) = .ok e a' s' i'→(∀ R:Bool→HS→Prop,R t ((r,.loop L')::(s3 ++ V i3 K))→roundQ r L R e2 a3 (s3 ++ V i3 K))→
          i≤i'∧i'≤K∧∀ Q:HExit→Fr→HS→Prop,Q e a' (s' ++ V i' K)→OpsV c n all Q (o::l) a (s ++ V i K):=by
         intro t L' h hR
         obtain ⟨a4,hp,h⟩:=put_ok h
         obtain ⟨h1,h2,h3⟩:=hk _ _ _ _ _ _ _ h g2
         refine ⟨by omega,h2,fun Q q=>?_⟩
         refine .round (s0:=serase s r ++ V i K) (R:=fun t' s'=>t'=t∧s'=(r,.loop L')::(s3 ++ V i3 K)) hact htg hy ((List.Perm.append_right _ (serase_perm hL)).trans (by simp)) c1 c2 c3 c4 ha1 (p3 _ ⟨rfl,g3 _ (hR _ ⟨rfl,rfl⟩)⟩) fun t' s' ⟨e1,e2⟩=>?_
         subst e1 e2
         exact ⟨a4,hp,h3 Q q⟩
        cases e2 with
        |normal=>exact fin true L h fun R hR=>hR
        |ret=>exact fin false _ h fun R hR=>hR
        |exit id=>exact fin false _ h fun R hR=>hR
        |pan v=>cases h
    ·cases h
   ·cases h
  ·cases h
 |none=>
 rw [hy] at h
 have h:opDo k call n K o a s i (cop c o.op a) = .ok e a' s' i':=h
 cases hq:cop c o.op a with
 |bad=>rw [hq] at h;cases h
 |val x=>
  rw [hq] at h
  obtain ⟨a1,hp,h⟩:=put_ok (show put n o a .sure x (fun a'=>k a' s i)=_ from h)
  obtain ⟨h1,h2,h3⟩:=hk _ _ _ _ _ _ _ h hi
  exact ⟨h1,h2,fun Q q=>.cons hact htg (OpT.val hq) (r:=s ++ V i K) (.refl _) hp (.refl _) (h3 Q q)⟩
 |same x=>
  rw [hq] at h
  obtain ⟨a1,hp,h⟩:=put_ok (show put n o a .sure x (fun a'=>k a' s i)=_ from h)
  obtain ⟨h1,h2,h3⟩:=hk _ _ _ _ _ _ _ h hi
  exact ⟨h1,h2,fun Q q=>.cons hact htg (OpT.same hq) (r:=s ++ V i K) (.refl _) hp (.refl _) (h3 Q q)⟩
 |pan x=>
  rw [hq] at h
  have h:Rs.ok (.pan x) a s i = .ok e a' s' i':=h
  injection h with e1 e2 e3 e4
  subst e1 e2 e3 e4
  exact ⟨Nat.le_refl _,hi,fun Q q=>.pan hact htg hq q⟩
 |upd x r y=>rw [hq] at h;cases h
 |new X Y=>
  rw [hq] at h
  have h:(Bool.rec (.out 3 o.pos) (put n o a .sure (X i) fun a'=>forceN (Nat.succ i) fun i1=>k a' ((i,Y i)::s) i1) (Nat.ble (Nat.succ i) K && newOp o.op):Rs) = .ok e a' s' i':=h
  cases hb:Nat.ble (Nat.succ i) K && newOp o.op with
  |false=>rw [hb] at h;cases h
  |true=>
   rw [hb] at h
   simp only [Bool.and_eq_true] at hb
   have hlt:i < K:=Nat.le_of_ble_eq_true hb.1
   obtain ⟨a1,hp,h⟩:=put_ok (show put n o a .sure (X i) (fun a'=>forceN (Nat.succ i) fun i1=>k a' ((i,Y i)::s) i1)=_ from h)
   rw [forceN_eq] at h
   obtain ⟨h1,h2,h3⟩:=hk _ _ _ _ _ _ _ h hlt
   refine ⟨by omega,h2,fun Q q=>?_⟩
   rw [V_cons hlt]
   exact .cons hact htg (OpT.new i hb.2 hq) (r:=s ++ V (i+1) K) (perm_swap1 _ _ _) hp (.refl _) (h3 Q q)
 |call f xs=>
  rw [hq] at h
  have h:opCall n o a k (call f xs s i) = .ok e a' s' i':=h
  obtain ⟨g1,g2⟩:=hcall f xs s i hi
  cases hc:call f xs s i with
  |out w p=>rw [hc] at h;cases h
  |ok _ _ _ _=>rw [hc] at h;cases h
  |ret x s1 i1=>
   rw [hc] at h
   obtain ⟨a1,hp,h⟩:=put_ok (show put n o a .sure x (fun a'=>k a' s1 i1)=_ from h)
   obtain ⟨q1,q2,q3⟩:=g1 _ _ _ hc
   obtain ⟨h1,h2,h3⟩:=hk _ _ _ _ _ _ _ h q2
   exact ⟨by omega,h2,fun Q q=>.cons hact htg (OpT.call hq q3) (r:=[]) (by simp) hp (by simp) (h3 Q q)⟩
  |pan x s1 i1=>
   rw [hc] at h
   have h:Rs.ok (.pan x) a s1 i1 = .ok e a' s' i':=h
   injection h with e1 e2 e3 e4
   subst e1 e2 e3 e4
   obtain ⟨q1,q2,q3⟩:=g2 _ _ _ hc
   exact ⟨q1,q2,fun Q q=>.callPan hact htg hq q3 q⟩
 |look r q=>
  rw [hq] at h
  have h:opLook n o a s r q (fun a s=>k a s i) = .ok e a' s' i':=h
  unfold opLook at h
  cases hy:sget s r with
  |none=>rw [hy] at h;cases h
  |some y=>
   rw [hy] at h
   have h:opUpd n o a s r (fun a s=>k a s i) (q y) = .ok e a' s' i':=h
   cases hz:q y with
   |bad=>rw [hz] at h;cases h
   |pan _=>rw [hz] at h;cases h
   |call _ _=>rw [hz] at h;cases h
   |new _ _=>rw [hz] at h;cases h
   |look _ _=>rw [hz] at h;cases h
   |val x=>
    rw [hz] at h
    obtain ⟨a1,hp,h⟩:=put_ok (show put n o a .sure x (fun a'=>k a' s i)=_ from h)
    obtain ⟨h1,h2,h3⟩:=hk _ _ _ _ _ _ _ h hi
    exact ⟨h1,h2,fun Q q=>.cons hact htg (OpT.look_val hq hy hz) (r:=V i K) (.refl _) hp (.refl _) (h3 Q q)⟩
   |same x=>
    rw [hz] at h
    obtain ⟨a1,hp,h⟩:=put_ok (show put n o a .sure x (fun a'=>k a' s i)=_ from h)
    obtain ⟨h1,h2,h3⟩:=hk _ _ _ _ _ _ _ h hi
    exact ⟨h1,h2,fun Q q=>.cons hact htg (OpT.look_same hq hy hz) (r:=V i K) (.refl _) hp (.refl _) (h3 Q q)⟩
   |upd x r' y'=>
    rw [hz] at h
    have h:(Bool.rec (.out 5 o.pos) (put n o a .sure x fun a'=>forceL (sset s r y') fun s=>k a' s i) (Nat.beq r' r):Rs) = .ok e a' s' i':=h
    cases hb:Nat.beq r' r with
    |false=>rw [hb] at h;cases h
    |true=>
     rw [hb] at h
     have hb:=Nat.eq_of_beq_eq_true hb
     subst hb
     obtain ⟨a1,hp,h⟩:=put_ok (show put n o a .sure x (fun a'=>forceL (sset s r' y') fun s=>k a' s i)=_ from h)
     rw [forceL_eq] at h
     obtain ⟨h1,h2,h3⟩:=hk _ _ _ _ _ _ _ h hi
     exact ⟨h1,h2,fun Q q=>.cons hact htg (OpT.look_upd hq hy hz hy) (r:=V i K) (.refl _) hp (.refl _) (h3 Q q)⟩
theorem evOps_ok {c:Cx} {n:Nat} {all:Array Oper} {K:Nat} {cod:Nat→Code→Fr→HS→Nat→Rs} (hcod:CodOk c K cod) {call:FuncId→List HV→HS→Nat→Rs} (hcall:CallOk c K call):∀ l:List Oper,KOk c n all K l (evOps c n all K cod call l)
 |[]=>fun a s i e a' s' i' h hi=>by
  have h:Rs.ok .normal a s i = .ok e a' s' i':=h
  injection h with e1 e2 e3 e4
  subst e1 e2 e3 e4
  exact ⟨Nat.le_refl _,hi,fun Q q=>.nil q⟩
 |o::l=>fun a s i e a' s' i' h hi=>opTag_ok (evOps_ok hcod hcall l) hcod hcall (show opTag (evOps c n all K cod call l) call n K o a s i cod c (active all a o)=_ from h) hi
end Go.Proofs.Hk

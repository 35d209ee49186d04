import Derived.Test.YtbdpdhnglnhlhaaGreatDoorH40
import Derived.Test.YtbdpdhnglnhlhaaGreatDoorH24
set_option linter.unusedSimpArgs false
set_option linter.unusedVariables false
set_option linter.unusedVariables false
set_option linter.unusedSimpArgs false
namespace Go.Proofs.Hk
open Go
/-! Functions that hold loops over functions: what is put off are the marks of loops that are over. -/
def mark (D:Nat):Deferred:={ target:=.collected D,args:=#[]}
structure Dfs (B:Nat) (G:Ghost) (s:HS) (w:World):Prop where
 nodup:G.df.Nodup
 out:∀ m∈G.df,∃ D,m=mark D∧B≤D∧w.heap[D]? = some (.deferred (some []))∧(∀ o,G.K D o=none)∧∃ r,G.role D=some r∧r∉keys s
theorem Dfs.post {B:Nat} {s s':HS} {G G':Ghost} {w w':World} (h:Dfs B G s w) (hs:SRel G s w) (k:Post s G w s' G' w'):Dfs B G' s' w':=
 ⟨by rw [k.ext.le.df];exact h.nodup,fun m hm=>by
  rw [k.ext.le.df] at hm
  obtain ⟨D,h1,h2,h3,h4,r,h5,h6⟩:=h.out m hm
  obtain ⟨g1,g2,g3⟩:=k.ext.blocks D (hs.role D r h5).1 fun r' e hr=>by rw [h5] at e;cases e;exact h6 hr
  refine ⟨D,h1,h2,g1.trans h3,fun o=>(g3 o).trans (h4 o),r,g2.trans h5,fun hr=>?_⟩
  rcases k.names r hr with hk|hk
  ·exact h6 hk
  ·exact absurd (hs.role D r h5).2 (by omega)⟩
structure PostM (B:Nat) (s:HS) (G:Ghost) (w:World) (s':HS) (G':Ghost) (w':World):Prop where
 post:Post s G w s' (G'.on G.df) w'
 dfs:Dfs B G' s' w'
theorem Post.onD {s s':HS} {G G':Ghost} {w w':World} (k:Post s G w s' (G'.on G.df) w') (D:List Deferred):Post s (G.on D) w s' (G'.on D) w':=
 Post.on (G:=G.on D) (D:=G.df) (G':=G'.on G.df) k
theorem PostM.srel {B:Nat} {s s':HS} {G G':Ghost} {w w':World} (k:PostM B s G w s' G' w'):SRel G' s' w':=k.post.srel.on G'.df
theorem PostM.refl {B:Nat} {s:HS} {G:Ghost} {w:World} (hs:SRel G s w) (h:Dfs B G s w):PostM B s G w s G w:=⟨.refl hs,h⟩
theorem PostM.of {B:Nat} {s s':HS} {G G':Ghost} {w w':World} (hs:SRel G s w) (h:Dfs B G s w) (k:Post s G w s' G' w'):PostM B s G w s' G' w':=
 ⟨by
  have e:G'.on G.df=G':=by rw [←k.ext.le.df];rfl
  rw [e];exact k,h.post hs k⟩
theorem PostM.trans {B:Nat} {s s1 s2:HS} {G G1 G2:Ghost} {w w1 w2:World} (hs:SRel G s w) (h:PostM B s G w s1 G1 w1) (k:PostM B s1 G1 w1 s2 G2 w2):PostM B s G w s2 G2 w2:=
 ⟨h.post.trans hs (k.post.onD G.df),k.dfs⟩
theorem FRel.onM {G:Ghost} {n:Nat} {a:Fr} {ra:Act} (h:FRel G n a ra):FRel (G.on ra.defers) n a ra:=by
 have e:G.on ra.defers=G:=by rw [h.defers];rfl
 rw [e];exact h
structure SemM (P:Program) (n:Nat) (code:Code) (Q:HExit→Fr→HS→Prop) (a:Fr) (s:HS):Prop where
 out:∀ B G w ra,B≤w.heap.size→SRel G s w→Dfs B G s w→FRel G n a ra→code.wp P (fun e ra' w'=>∃ he a' s' G',Q he a' s'∧exitRel G' he e∧FRel G' n a' ra'∧PostM B s G w s' G' w') ra w
section
variable {P:Program} {n:Nat} {Q:HExit→Fr→HS→Prop} {a:Fr} {s:HS} {x y b:Code}
theorem SemM.of (h:SemWp P n x Q a s):SemM P n x Q a s:=
 ⟨fun B G w ra hB hs hd hf=>wp_mono (h.out G w ra hs hf).wp fun e ra' w' ⟨he,a',s',G',q,hr,hf',hp⟩=>⟨he,a',s',G',q,hr,hf',.of hs hd hp⟩⟩
theorem SemM.mono {Q':HExit→Fr→HS→Prop} (h:SemM P n x Q a s) (hq:∀ e a s,Q e a s→Q' e a s):SemM P n x Q' a s:=
 ⟨fun B G w ra hB hs hd hf=>wp_mono (h.out B G w ra hB hs hd hf) fun _ _ _ ⟨he,a',s',G',q,k⟩=>⟨he,a',s',G',hq _ _ _ q,k⟩⟩
theorem SemM.forget {a':Fr} (h:SemM P n x Q a s) (hs:a.Sub a'):SemM P n x Q a' s:=⟨fun B G w ra hB hr hd hf=>h.out B G w ra hB hr hd (hf.sub hs)⟩
theorem SemM.permd {s1:HS} (p:s1.Perm s) (h:SemM P n x Q a s1):SemM P n x Q a s:=
 ⟨fun B G w ra hB hs hd hf=>by
  have hk:∀ r,r∈keys s1↔r∈keys s:=fun r=>(p.map (·.1)).mem_iff
  refine wp_mono (h.out B G w ra hB (hs.permd p.symm) ⟨hd.nodup,fun m hm=>?_⟩ hf) fun e ra' w' ⟨he,a',s',G',q,hr,hf',hp⟩=>⟨he,a',s',G',q,hr,hf',hp.post.permL p,hp.dfs⟩
  obtain ⟨D,h1,h2,h3,h4,r,h5,h6⟩:=hd.out m hm
  exact ⟨D,h1,h2,h3,h4,r,h5,fun hr=>h6 ((hk r).1 hr)⟩⟩
def LiftM (B n:Nat) (s0:HS) (G0:Ghost) (w0:World) (Q:HExit→Fr→HS→Prop):Exit→Act→World→Prop:=
 fun e ra w=>∃ he a s G,Q he a s∧exitRel G he e∧FRel G n a ra∧PostM B s0 G0 w0 s G w
theorem SemM.lift (h:SemM P n x Q a s) {s0:HS} {G0:Ghost} {w0:World} (h0:SRel G0 s0 w0) {B:Nat} {G:Ghost} {w:World} {ra:Act} (hB:B≤w0.heap.size)
  (hp:PostM B s0 G0 w0 s G w) (hf:FRel G n a ra):x.wp P (LiftM B n s0 G0 w0 Q) ra w:=
 wp_mono (h.out B G w ra (Nat.le_trans hB hp.post.ext.size) hp.srel hp.dfs hf) fun _ _ _ ⟨he,a',s',G',hq,hr,hf',hp'⟩=>⟨he,a',s',G',hq,hr,hf',hp.trans h0 hp'⟩
theorem SemM.seq (h:SemM P n x (fun e a s=>match e with|.normal=>SemM P n y Q a s|e=>Q e a s) a s):SemM P n (.seq x y) Q a s:=
 ⟨fun B G w ra hB hs hd hf=>wp_seq (wp_mono (h.out B G w ra hB hs hd hf) fun e ra' w' ⟨he,a',s',G',q,hr,hf',hp⟩=>by
  cases he with
  |normal=>
   cases e<;>first|exact hr.elim|skip
   exact q.lift hs hB hp hf'
  |exit i=>cases e<;>first|exact hr.elim|exact ⟨.exit i,a',s',G',q,hr,hf',hp⟩
  |ret=>cases e<;>first|exact hr.elim|exact ⟨.ret,a',s',G',q,hr,hf',hp⟩
  |pan x=>cases e<;>first|exact hr.elim|exact ⟨.pan x,a',s',G',q,hr,hf',hp⟩)⟩
theorem SemM.cond {t:Operand} {v:Bool} (hb:ev a t=some (.sure,.v (.bool v))) (h:SemM P n (if v then x else y) Q a s):SemM P n (.cond t x y) Q a s:=
 ⟨fun B G w ra hB hs hd hf=>by
  have hb:=rel_v_eq (ev_ok hf hb)
  cases v with
  |true=>exact wp_cond_true hb (h.out B G w ra hB hs hd hf)
  |false=>exact wp_cond_false hb (h.out B G w ra hB hs hd hf)⟩
theorem SemM.block {id:Nat} (h:SemM P n b (hinBlock id Q) a s):SemM P n (.block id b) Q a s:=
 ⟨fun B G w ra hB hs hd hf=>wp_block (wp_mono (h.out B G w ra hB hs hd hf) fun e ra' w' ⟨he,a',s',G',q,hr,hf',hp⟩=>by
  cases he with
  |normal=>cases e<;>first|exact hr.elim|exact ⟨.normal,a',s',G',q,hr,hf',hp⟩
  |exit i=>
   cases e<;>first|exact hr.elim|skip
   have hij:i=_:=hr
   subst hij
   simp only [hinBlock] at q
   simp only [Exit.inBlock]
   split at q
   ·rename_i hb
    rw [if_pos (Nat.eq_of_beq_eq_true hb)]
    exact ⟨.normal,a',s',G',q,trivial,hf',hp⟩
   ·rename_i hb
    rw [if_neg (fun e=>by subst e;simp at hb)]
    exact ⟨.exit i,a',s',G',q,rfl,hf',hp⟩
  |ret=>cases e<;>first|exact hr.elim|exact ⟨.ret,a',s',G',q,hr,hf',hp⟩
  |pan x=>cases e<;>first|exact hr.elim|exact ⟨.pan x,a',s',G',q,hr,hf',hp⟩)⟩
theorem SemM.scope (h:SemM P n b Q a s):SemM P n (.scope b) Q a s:=
 ⟨fun B G w ra hB hs hd hf=>wp_scope_straight (wp_mono (h.out B G w ra hB hs hd hf) fun e ra' w' ⟨he,a',s',G',q,hr,k⟩=>by
  cases e with
  |goto l=>cases he<;>exact hr.elim
  |_=>exact ⟨he,a',s',G',q,hr,k⟩)⟩
theorem wp_loopI {Q:Exit→Act→World→Prop} {c:Code} (I:Nat→Act→World→Prop) (m0:Nat) {a:Act} {w:World} (h0:I m0 a w)
  (round:∀ m a w,I m a w→c.wp P (Exit.then (fun a' w'=>∃ m',m' < m∧I m' a' w') Q) a w):(Code.loop c).wp P Q a w:=by
 intro bf k cs
 have key:∀ j a w,I j a w→∃ e a' w',Q e a' w'∧Arrives P (lone (bf.at a (.code c::.inLoop c::k)) cs w) bf k cs e a' w':=by
  intro j
  induction j using Nat.strongRecOn with
  |_ j ih=>
   intro a w hI
   obtain ⟨e,a₁,w₁,hq,harr⟩:=round j a w hI bf (.inLoop c::k) cs
   cases e with
   |normal=>
    obtain ⟨m',hlt,hI₁⟩:=hq
    obtain ⟨e₂,a₂,w₂,hq₂,harr₂⟩:=ih m' hlt a₁ w₁ hI₁
    exact ⟨e₂,a₂,w₂,hq₂,.of_steps (Steps.trans harr (.one step_inLoop)) harr₂⟩
   |exit id=>exact ⟨_,a₁,w₁,hq,.pass (x:=.inLoop c) rfl (fun _ _=>.inl (by simp)) harr⟩
   |goto l=>exact ⟨_,a₁,w₁,hq,.pass (x:=.inLoop c) rfl (fun _ _=>.inl (by simp)) harr⟩
   |ret=>exact ⟨_,a₁,w₁,hq,.pass (x:=.inLoop c) rfl (fun _ _=>.inl (by simp)) harr⟩
   |panic ch=>exact ⟨_,a₁,w₁,hq,.pass (x:=.inLoop c) rfl (fun _ _=>.inl (by simp)) harr⟩
   |outgrown=>exact ⟨_,a₁,w₁,hq,.pass (x:=.inLoop c) rfl (fun _ _=>.inl (by simp)) harr⟩
 obtain ⟨e,a',w',hq,harr⟩:=key m0 a w h0
 exact ⟨e,a',w',hq,.of_steps (.one step_loop) harr⟩
theorem SemM.loop (I:Nat→Fr→HS→Prop) (m0:Nat) (h0:I m0 a s)
  (round:∀ m a s,I m a s→SemM P n b (fun e a' s'=>match e with|.normal=>∃ m',m' < m∧I m' a' s'|e=>Q e a' s') a s):SemM P n (.loop b) Q a s:=
 ⟨fun B G w ra hB hs hd hf=>by
  refine wp_loopI (fun m ra1 w1=>∃ a1 s1 G1,I m a1 s1∧FRel G1 n a1 ra1∧PostM B s G w s1 G1 w1) m0 ⟨a,s,G,h0,hf,.refl hs hd⟩ ?_
  rintro m ra1 w1 ⟨a1,s1,G1,hI,hf1,hp1⟩
  refine wp_mono ((round m a1 s1 hI).lift hs hB hp1 hf1) fun e ra2 w2 ⟨he,a2,s2,G2,q,hr,hf2,hp2⟩=>?_
  cases he with
  |normal=>
   cases e<;>first|exact hr.elim|skip
   obtain ⟨m',hlt,hI'⟩:=q
   exact ⟨m',hlt,a2,s2,G2,hI',hf2,hp2⟩
  |exit i=>cases e<;>first|exact hr.elim|exact ⟨.exit i,a2,s2,G2,q,hr,hf2,hp2⟩
  |ret=>cases e<;>first|exact hr.elim|exact ⟨.ret,a2,s2,G2,q,hr,hf2,hp2⟩
  |pan x=>cases e<;>first|exact hr.elim|exact ⟨.pan x,a2,s2,G2,q,hr,hf2,hp2⟩⟩
end
theorem fn_enters {c:Cx} {g:FuncId} (hg:c.fn g=true) (A B:Array Value) (w:World):(invoke (.fn (.func g) B) A).run c.P w = .ok (.enter g (A ++ B)) w:=by
 obtain ⟨dn,hdn,hbn,hnn⟩:=c.fn_ok g hg
 have hn':¬ dn.name = "runtime.NumGoroutine":=by simpa using hnn
 have hb':¬ dn.body=none:=by intro e;rw [e] at hbn;cases hbn
 simp [invoke,callFunc,program,Sem.run,hdn,hn',hb']
/-- Behind a loop over a function. -/
def rangeQ (v:Nat) (Q:HExit→Fr→HS→Prop) (a:Fr) (L:LoopR) (s1:HS):Prop:=
 L.busy=false∧match L.pend with
  |none=>Q .normal a s1
  |some .ret=>Q .ret a s1
  |some (.exit id)=>Q (.exit id) a s1
  |_=>False
theorem SemM.range {c:Cx} {n:Nat} {f:Operand} {ps:Array Tmp} {asg bdy:Code} {Q:HExit→Fr→HS→Prop} {a:Fr} {s0:HS} {v g:Nat} {fi ca:List HV} (he:ev a f=some (.sure,.fn (.func g) fi ca)) (hg:c.fn g=true)
  (h:HCalls c.P g (fi ++ [.yld v] ++ ca) ((v,.loop ⟨n,a,ps,asg,bdy,false,none⟩)::s0) fun e st=>∃ x L s1,e = .ret x∧st.Perm ((v,.loop L)::s1)∧rangeQ v Q a L s1) :
  SemM c.P n (.rangeFunc f ps asg bdy) Q a ((v,.void)::s0):=
 ⟨fun B G w ra hB hs hd hf=>by
  refine (wpIn_wide (n:=0)).1 (wpIn_rangeFunc fun fid _=>?_)
  have hfr:frR G n a ra.tmps:=⟨hf.size,hf.slots⟩
  obtain ⟨run1,post1⟩:=loopAs_new (c:=c) hs hfr fid ps asg bdy
  generalize hw1:World.pushed (World.pushed w (.deferred (some []))) (.loop (LoopR.obj ⟨n,a,ps,asg,bdy,false,none⟩ fid ra.tmps w.heap.size))=w1 at *
  obtain ⟨A,C,hAC,h1,h2⟩:=rel_fn (ev_ok hf he)
  have hyl:rel (G.loopAs v w.heap.size) (.yld v) (.func (.yield (w.heap.size+1)) #[] #[]):=rel_leaf (by simp only [relC];exact ⟨w.heap.size+1,by simp [Ghost.loopAs],rfl⟩) rfl
  have le:=loopAs_le hs w.heap.size
  refine ⟨w.heap.size+1,[mark w.heap.size],w1,{ target:=.fn (.func g) C,args:=A ++ #[.func (.yield (w.heap.size+1)) #[] #[]]},w1,g,A ++ #[.func (.yield (w.heap.size+1)) #[] #[]] ++ C,w1,run1,?_,fun f' _=>trivial,fn_enters hg _ _ _,(fun h=>by cases h),?_⟩
  ·have hev:ra.eval f = .func (.func g) A C:=hAC
   simp [resolve,rangeCall,hev,Deferred.ofValue,Sem.run]
   rfl
  ·refine callsIn_wide.2 ((h.out (G.loopAs v w.heap.size) w1 _ post1.srel ?_).mono fun e w3 ⟨hE,s3,G3,⟨x,L,s1,hx,hperm,hb,hQ⟩,hrel,hp3⟩=>?_)
   ·have h1':=relVs.mono le _ _ h1
    have h2':=relVs.mono le _ _ h2
    have:=relVs_append (relVs_append h1' (show relVs (G.loopAs v w.heap.size) [.yld v] [.func (.yield (w.heap.size+1)) #[] #[]] by rw [relVs_cons];exact ⟨_,_,rfl,hyl,by simp [relVs]⟩)) h2'
    simpa using this
   ·subst hx
    cases e<;>first|exact hrel.elim|skip
    have q3:=hp3.permR' hperm
    obtain ⟨D,fid3,tmps3,e3,hbk3,hD3,hKD3,hall⟩:=loop_drop q3.srel
    have hDw:D=w.heap.size:=by
     have:=q3.ext.le.om v (w.heap.size+1) (by simp [Ghost.loopAs])
     rw [e3] at this
     have:=Option.some.inj this
     omega
    subst hDw
    have hst:(L.obj fid3 tmps3 w.heap.size).state≠.busy:=by
     simp only [LoopR.obj,LoopR.st,hb]
     cases L.pend<;>simp
    obtain ⟨q4,hh4⟩:=hall { L.obj fid3 tmps3 w.heap.size with state:=.exhausted}
    have total:=(post1.trans hs q3).trans hs q4
    have edf:G3.on G.df=G3:=by rw [←total.ext.le.df];rfl
    have hvn:v∉keys s1:=by
     have:=q3.srel.keys
     simp only [keys,List.map_cons,List.nodup_cons] at this
     exact this.1
    have hdf:=hd.post hs total
    refine ⟨L.pend,_,run_endLoop hbk3 hst,?_⟩
    have fin:∀ (he:HExit) (e:Exit),exitRel (G3.on (mark w.heap.size::G.df)) he e→Q he a s1→∃ he a' s' G',Q he a' s'∧exitRel G' he e∧FRel G' n a' { ra with defers:=[mark w.heap.size] ++ ra.defers}∧PostM B ((v,.void)::s0) G w s' G' (w3.putObj (w.heap.size+1) (.loop { L.obj fid3 tmps3 w.heap.size with state:=.exhausted})):=by
     intro he e hr hq
     refine ⟨he,a,s1,_,hq,hr,⟨hf.size,by rw [hf.defers];rfl,fun t g x ex=>⟨(hf.slots t g x ex).1,((hf.slots t g x ex).2.mono total.ext.le).mono0 (G3.on_le _)⟩⟩,⟨?_,?_,fun m hm=>?_⟩⟩
     ·show Post _ G w s1 (G3.on G.df) _
      rw [edf];exact total
     ·refine List.nodup_cons.2 ⟨fun hm=>?_,hd.nodup⟩
      obtain ⟨D',g1,g2,g3,_⟩:=hd.out _ hm
      have e1:w.heap.size=D':=by
       simp only [mark,Deferred.mk.injEq,Target.collected.injEq] at g1
       exact g1.1
      have:=(Array.getElem?_eq_some_iff.1 g3).1
      omega
     ·rcases List.mem_cons.1 hm with rfl|hm
      ·exact ⟨w.heap.size,rfl,hB,hh4,hKD3,v,hD3,hvn⟩
      ·exact hdf.out m (by rw [total.ext.le.df];exact hm)
    cases hpd:L.pend with
    |none=>
     rw [hpd] at hQ
     exact fin .normal .normal trivial hQ
    |some cd=>
     rw [hpd] at hQ
     cases cd<;>(first|exact hQ.elim|skip)
     ·rename_i id
      exact wpIn_exit (fin (.exit id) (.exit id) rfl hQ)
     ·exact wpIn_ret (fin .ret .ret trivial hQ)⟩
/-! A function's end. -/
theorem holds.other {G:Ghost} {w w':World} {q:Nat} {y:Res} (h:∀ b,G.role b=some q→w'.heap[b]? = w.heap[b]?) (k:holds G w q y):holds G w' q y:=by
 cases y with
 |cells cs t=>
  obtain ⟨b,vs,e,ro,hh,hc,hK⟩:=k
  exact ⟨b,vs,e,ro,(h b ro).trans hh,hc,hK⟩
 |map es=>
  obtain ⟨b,ents,cl,e,ro,hh,hc⟩:=k
  exact ⟨b,ents,cl,e,ro,(h b ro).trans hh,hc⟩
 |tok n=>
  obtain ⟨tp,e,hn,hq⟩:=k
  refine ⟨tp,e,hn,fun hlt=>?_⟩
  obtain ⟨ro,vs,t,hh,hce,hK⟩:=hq hlt
  exact ⟨ro,vs,t,(h _ ro).trans hh,hce,hK⟩
 |void=>exact k
 |loop L=>
  obtain ⟨b,D,fid,tmps,bD,e,ro,hh,hc,hD,hd,hK,hK'⟩:=k
  exact ⟨b,D,fid,tmps,bD,e,ro,(h b ro).trans hh,hc,hD,(h D hD).trans hd,hK,hK'⟩
 |row cs sz t=>
  obtain ⟨b,c,vs,e,e',ro,hh,q1,q2,hc,hK⟩:=k
  exact ⟨b,c,vs,e,e',ro,(h b ro).trans hh,q1,q2,hc,hK⟩
theorem Post.shut {s s':HS} {G H:Ghost} {w w':World} (k:Post s G w s' H w') {D r:Nat} (o:Obj) (hD:w.heap.size≤D) (hr:H.role D=some r) (hn:r∉keys s') (hK:∀ o,H.K D o=none):Post s G w s' H (w'.putObj D o):=by
 refine ⟨⟨fun b' off v hv=>?_,k.srel.keys,fun q y hy=>(k.srel.holds q y hy).other fun b hb=>?_,k.srel.fresh,fun b' q e=>by rw [World.putObj_size];exact k.srel.role b' q e⟩,⟨k.ext.le,by rw [World.putObj_size];exact k.ext.size,fun b hb hq=>?_,k.ext.tops,k.ext.lim,k.ext.os,k.ext.tape,k.ext.output,k.ext.voids⟩,k.names⟩
 ·have hne:b'≠D:=fun e=>by rw [e,hK] at hv;cases hv
  have:=k.srel.kw b' off v hv
  simp only [World.cell?] at this ⊢
  rw [World.putObj_heap_other hne];exact this
 ·refine World.putObj_heap_other fun e=>?_
  subst e
  rw [hr] at hb
  cases hb
  exact hn (List.mem_map.2 ⟨_,hy,rfl⟩)
 ·obtain ⟨h1,h2,h3⟩:=k.ext.blocks b hb hq
  exact ⟨(World.putObj_heap_other (by omega)).trans h1,h2,h3⟩
theorem leavesM {P:Program} {fn:Func} {tmps:Array Value} {R:Ending→World→Prop} {s s':HS} {G:Ghost} {w:World} {u:FrameMode} (hu:u≠.run):∀ (ds:List Deferred) (G':Ghost) (w':World),G'.df=ds→PostM w.heap.size s G w s' G' w'→
  (∀ w'',Post s G w s' (G'.on G.df) w''→LeavesIn Fence.wide 0 P fn tmps R [] u w'')→LeavesInM Fence.wide 0 P fn tmps R ds u w'
 |[],G',w',_,hp,k=>k w' hp.post
 |d::ds,G',w',e,hp,k=>by
  obtain ⟨D,h1,h2,h3,h4,r,h5,h6⟩:=hp.dfs.out d (by rw [e];exact List.mem_cons_self)
  refine ⟨hu,.inl ⟨D,_,by rw [h1];rfl,run_takeDeferred h3,?_⟩⟩
  have hnd:=hp.dfs.nodup
  rw [e] at hnd
  obtain ⟨n1,n2⟩:=List.nodup_cons.1 hnd
  refine leavesM hu ds (G'.on ds) _ rfl ⟨hp.post.shut _ h2 h5 h6 h4,n2,fun m hm=>?_⟩ k
  obtain ⟨D',g1,g2,g3,g4,r',g5,g6⟩:=hp.dfs.out m (by rw [e];exact List.mem_cons_of_mem _ hm)
  refine ⟨D',g1,g2,(World.putObj_heap_other fun eD=>?_).trans g3,g4,r',g5,g6⟩
  subst eD
  exact n1 (by rw [h1,←g1];exact hm)
theorem sem_callsM (c:Cx) {f:FuncId} {fn:Func} {code:Code} {args:List HV} {a:Fr} {s:HS} {R:HEnd→HS→Prop} (hf:c.P.funcs[f]? = some fn) (hb:fn.body=some code) (hn:Nat.ble args.length fn.ntmps=true) (ha:initFr args 0=a)
  (h:SemM c.P fn.ntmps code (BodyR c fn.results.toList R) a s):HCalls c.P f args s R:=
 HCalls.of_df fun G w vs hdf hs hargs=>by
  subst ha
  have hl:=relVs_length hargs
  have hn:=Nat.le_of_ble_eq_true hn
  have hsz:vs.size=args.length:=by simpa using hl
  refine (callsIn_wide (n:=0)).1 (callsIn_of_wp_marks (F:=Fence.wide) (n:=0) hf hb trivial (wpIn_wide.2 (wp_mono (h.out w.heap.size G w _ (Nat.le_refl _) hs ⟨by rw [hdf];exact .nil,fun m hm=>by rw [hdf] at hm;cases hm⟩ ⟨by simp;omega,hdf.symm,fun t g x e=>?_⟩) fun e ra' w' ⟨he,a',s',G',q,hr,hf',hp⟩=>?_)) rfl)
  ·obtain ⟨rfl,i,rfl,hx⟩:=initFr_get args 0 t g x e
   obtain ⟨u,hu,hr⟩:=relVs_get hargs i x hx
   have hi:i < args.length:=(List.getElem?_eq_some_iff.1 hx).1
   refine ⟨by omega,?_⟩
   have:(vs ++ Array.replicate (fn.ntmps - vs.size) undef).getD (0+i) undef=u:=by
    rw [Nat.zero_add,Array.getD_eq_getD_getElem?,Array.getElem?_append_left (by omega)]
    have:vs[i]? = some u:=by simpa using hu
    rw [this];rfl
   rw [this]
   exact hr
  ·have fin:ResQ c fn.results.toList R a' s'→LeavesInM Fence.wide 0 c.P fn ra'.tmps (fun e w'=>∃ he s' G',R he s'∧endRel G' he e∧Post s G w s' G' w') ra'.defers .returning w':=by
    intro hm
    rw [hf'.defers]
    refine leavesM (by simp) _ G' w' rfl hp fun w'' hp''=>?_
    obtain ⟨v,hv,he,hR,hend⟩:=resQ_ok hp''.srel (hf'.df G.df) hm
    exact ⟨v,hv,he,s',_,hR,hend,hp''⟩
   have q:=q.out
   cases he with
   |normal=>cases e<;>first|exact hr.elim|exact fin q
   |ret=>cases e<;>first|exact hr.elim|exact fin q
   |exit i=>exact q.elim
   |pan x=>
    cases e<;>first|exact hr.elim|skip
    show LeavesInM _ _ _ _ _ _ ra'.defers _ w'
    rw [hf'.defers]
    exact leavesM (by simp) _ G' w' rfl hp fun w'' hp''=>⟨.pan x,s',_,q,(show endRel (G'.on G.df) (.pan x) _ from by obtain ⟨u,e1,e2⟩:=hr;exact ⟨u,e1,e2.mono0 (G'.on_le _)⟩),hp''⟩
end Go.Proofs.Hk

set_option linter.unusedVariables false
set_option linter.unusedSimpArgs false
namespace Go.Proofs.Hk
open Go
/-! Rows of one's own, whose room is not known. -/
theorem holds.moveAll {G G':Ghost} {w w':World} {q:Nat} {y:Res} (le:G.Le0 G') (hb:∀ b,G.role b=some q→w'.heap[b]? = w.heap[b]?∧G'.role b=some q∧∀ o,G'.K b o=G.K b o) (ht:G'.top q=G.top q)
  (hv:G.om q=none→(∀ b,G.role b≠some q)→q < G.lim→q < G'.lim∧G'.om q=none∧∀ b,G'.role b≠some q) (k:holds G w q y):holds G' w' q y:=by
 cases y with
 |cells cs t=>
  obtain ⟨b,vs,e,ro,hh,hc,hK⟩:=k
  obtain ⟨h1,h2,h3⟩:=hb b ro
  exact ⟨b,vs,le.om q b e,h2,h1.trans hh,relCs.mono0 le _ _ hc,fun o=>(h3 o).trans (hK o)⟩
 |map es=>
  obtain ⟨b,ents,cl,e,ro,hh,hc⟩:=k
  obtain ⟨h1,h2,h3⟩:=hb b ro
  exact ⟨b,ents,cl,le.om q b e,h2,h1.trans hh,relMap.mono0 le _ _ hc⟩
 |tok n=>
  obtain ⟨tp,e,hn,hq⟩:=k
  refine ⟨tp,ht.trans e,hn,fun hlt=>?_⟩
  obtain ⟨ro,vs,t,hh,hce,hK⟩:=hq hlt
  obtain ⟨h1,h2,h3⟩:=hb tp.b ro
  exact ⟨h2,vs,t,h1.trans hh,hce,fun o ho=>(h3 o).trans (hK o ho)⟩
 |void=>
  obtain ⟨h0,h1,h2,h3⟩:=k
  obtain ⟨a,b,c⟩:=hv h1 h3 h0
  exact ⟨a,b,ht.trans h2,c⟩
 |loop L=>exact holds.move rfl le hb k
 |row cs sz t=>exact holds.move rfl le hb k
theorem post_own {m s0:HS} {G G':Ghost} {w w':World} {v b0:Nat} {x:Res} (h:SRel G (m ++ s0) w) (hv:v∈keys m)
  (hK:G'.K=G.K) (htop:G'.top=G.top) (hlim:G'.lim=G.lim) (hdf:G'.df=G.df)
  (hom:∀ q b,G.om q=some b→G'.om q=some b) (homn:∀ q,q∉keys m→G'.om q=G.om q)
  (hrole:∀ b,b≠b0→G'.role b=G.role b) (hrole0:G'.role b0=some v)
  (hb0:w.heap.size≤b0∨∃ q,G.role b0=some q∧q∈keys m)
  (hheap:∀ b,b≠b0→b < w.heap.size→w'.heap[b]? = w.heap[b]?) (hsz:w.heap.size≤w'.heap.size) (hb0':b0 < w'.heap.size)
  (hKb:∀ o,G.K b0 o=none) (hos:w'.os=w.os) (htape:w'.tape=w.tape) (hout:w'.output=w.output)
  (hx:holds G' w' v x):Post (m ++ s0) G w ((v,x)::s0) G' w':=by
 have hnd:=h.keys
 rw [keys_append,List.nodup_append] at hnd
 obtain ⟨n1,n2,n3⟩:=hnd
 have hvlim:∀ q,q∈keys m→q < G.lim:=fun q hq=>h.lt_key (by rw [keys_append];exact List.mem_append_left _ hq)
 have le:G.Le G':=⟨fun b o u e=>by rw [hK];exact e,hom,fun q t e=>⟨t,by rw [htop];exact e,Nat.le_refl _,fun _=>rfl⟩,hdf⟩
 have nb:∀ b q,G.role b=some q→q∉keys m→b≠b0:=fun b q e hq hb=>by
  subst hb
  rcases hb0 with h1|⟨q',h1,h2⟩
  ·have:=(h.role b q e).1;omega
  ·rw [e] at h1;cases h1;exact hq h2
 refine ⟨⟨fun b o u e=>?_,?_,fun q y hy=>?_,fun q hq=>?_,fun b q e=>?_⟩,⟨le,hsz,fun b hb hr=>?_,fun q tp e _=>by rw [htop];exact e,by rw [hlim];exact Nat.le_refl _,hos,htape,hout,fun q hq hk h1 h2 h3=>?_⟩,fun q hq=>.inl ?_⟩
 ·rw [hK] at e
  have hne:b≠b0:=fun hb=>by rw [hb,hKb] at e;cases e
  have:=h.kw b o u e
  have hlt:=h.K_lt e
  simp only [World.cell?,hheap b hne hlt] at this ⊢
  exact this
 ·simp only [keys,List.map_cons,List.nodup_cons]
  exact ⟨fun hm=>n3 v hv v hm rfl,n2⟩
 ·rcases List.mem_cons.1 hy with hy|hy
  ·cases hy;exact hx
  ·have hqk:q∈keys s0:=List.mem_map.2 ⟨_,hy,rfl⟩
   have hqm:q∉keys m:=fun hq=>n3 q hq q hqk rfl
   refine (h.holds q y (List.mem_append_right _ hy)).moveAll le.to0 (fun b e=>?_) (by rw [htop]) fun a1 a2 a3=>⟨by rw [hlim];exact a3,(homn q hqm).trans a1,fun b e=>?_⟩
   ·have hne:=nb b q e hqm
    exact ⟨hheap b hne (h.role b q e).1,(hrole b hne).trans e,fun o=>by rw [hK]⟩
   ·by_cases hb:b=b0
    ·subst hb;rw [hrole0] at e;cases e;exact hqm hv
    ·rw [hrole b hb] at e;exact a2 b e
 ·rw [hlim] at hq
  have:=h.fresh q hq
  have hqm:q∉keys m:=fun hm=>by have:=hvlim q hm;omega
  exact ⟨(homn q hqm).trans this.1,by rw [htop];exact this.2⟩
 ·by_cases hb:b=b0
  ·subst hb;rw [hrole0] at e;cases e;exact ⟨hb0',by rw [hlim];exact hvlim v hv⟩
  ·rw [hrole b hb] at e
   obtain ⟨q1,q2⟩:=h.role b q e
   exact ⟨Nat.lt_of_lt_of_le q1 hsz,by rw [hlim];exact q2⟩
 ·have hne:b≠b0:=fun e=>by
   subst e
   rcases hb0 with h1|⟨q',h1,h2⟩
   ·omega
   ·exact hr q' h1 (by rw [keys_append];exact List.mem_append_left _ h2)
  exact ⟨hheap b hne hb,hrole b hne,fun o=>by rw [hK]⟩
 ·have hqm:q∉keys m:=fun hm=>hk (by rw [keys_append];exact List.mem_append_left _ hm)
  refine ⟨(homn q hqm).trans h1,by rw [htop];exact h2,fun b e=>?_⟩
  by_cases hb:b=b0
  ·subst hb;rw [hrole0] at e;cases e;exact hqm hv
  ·rw [hrole b hb] at e;exact h3 b e
 ·simp only [keys,List.map_cons,List.mem_cons] at hq
  rw [keys_append,List.mem_append]
  rcases hq with rfl|hq
  ·exact .inl hv
  ·exact .inr hq
/-- The ghost of a new row. -/
def Ghost.rowAs (G:Ghost) (v b cap:Nat):Ghost:=
 {G with om:=fun q=>if q=v then some b else if q=v+1 then some cap else G.om q,role:=fun b'=>if b'=b then some v else G.role b'}
theorem rowAs_post {m s0:HS} {G:Ghost} {w w':World} {v b cap:Nat} {x:Res} (h:SRel G (m ++ s0) w) (hv:(v,Res.void)∈m) (hv1:(v+1,Res.void)∈m)
  (hb0:w.heap.size≤b∨∃ q,G.role b=some q∧q∈keys m)
  (hheap:∀ b',b'≠b→b' < w.heap.size→w'.heap[b']? = w.heap[b']?) (hsz:w.heap.size≤w'.heap.size) (hb0':b < w'.heap.size)
  (hKb:∀ o,G.K b o=none) (hos:w'.os=w.os) (htape:w'.tape=w.tape) (hout:w'.output=w.output)
  (hx:G.Le (G.rowAs v b cap)→holds (G.rowAs v b cap) w' v x):Post (m ++ s0) G w ((v,x)::s0) (G.rowAs v b cap) w':=by
 have k1:v∈keys m:=List.mem_map.2 ⟨_,hv,rfl⟩
 have k2:v+1∈keys m:=List.mem_map.2 ⟨_,hv1,rfl⟩
 obtain ⟨a0,a1,a2,a3⟩:=h.holds v _ (List.mem_append_left _ hv)
 obtain ⟨c0,c1,c2,c3⟩:=h.holds (v+1) _ (List.mem_append_left _ hv1)
 have hom:∀ q b',G.om q=some b'→(G.rowAs v b cap).om q=some b':=fun q b' e=>by
  simp only [Ghost.rowAs]
  split
  ·rename_i hq;subst hq;rw [a1] at e;cases e
  ·split
   ·rename_i hq;subst hq;rw [c1] at e;cases e
   ·exact e
 have le:G.Le (G.rowAs v b cap):=⟨fun _ _ _ e=>e,hom,fun q t e=>⟨t,e,Nat.le_refl _,fun _=>rfl⟩,rfl⟩
 exact post_own h k1 rfl rfl rfl rfl hom (fun q hq=>by
  simp only [Ghost.rowAs]
  rw [if_neg (fun e=>hq (by rw [e];exact k1)),if_neg (fun e=>hq (by rw [e];exact k2))]) (fun b' hb=>by simp only [Ghost.rowAs];rw [if_neg hb]) (by simp [Ghost.rowAs]) hb0 hheap hsz hb0' hKb hos htape hout (hx le)
theorem row_rel {G:Ghost} {v b cap n sz:Nat} (h:n≤cap):rel (G.rowAs v b cap) (.row v n sz) (.slice (some ⟨b,0,none⟩) n cap):=
 rel_leaf (by simp only [relC];exact ⟨b,cap,by simp [Ghost.rowAs],by simp [Ghost.rowAs],h,rfl⟩) rfl
theorem rel_row {G:Ghost} {r n sz:Nat} {u:Value} (h:rel G (.row r n sz) u):∃ b c,G.om r=some b∧G.om (r+1)=some c∧n≤c∧u = .slice (some ⟨b,0,none⟩) n c:=by
 obtain ⟨h1,_⟩:=leaf_of h rfl
 simp only [relC] at h1
 obtain ⟨b,c,e,e',hn,h⟩:=h1
 exact ⟨b,c,e,e',hn,by simpa using h⟩
/-- A row that moves to a block of its own. -/
theorem row_moved {c:Cx} {m s0:HS} {G:Ghost} {w:World} {v:Nat} (h:SRel G (m ++ s0) w) (hv:(v,Res.void)∈m) (hv1:(v+1,Res.void)∈m) {t u ty e:TypeId} {d:TyD} {du:TypeDesc} (ht:∀ w:World,(underlying t).run c.P w = .ok (.slice e) w) (hu:∀ w:World,(underlying u).run c.P w = .ok du w) (hdu:du = .string∨∃ e',du = .slice e') (hd:TyOK c.P e d)
  {base:Option Addr} {n cp:Nat} {ys:List HV} {z:Value} {olds news:List Value} {cs:List HV}
  (hold:∀ w',w'.heap=w.heap→(Builtin.firstCells d.size n (.slice base n cp)).run c.P w' = .ok olds.toArray w') (hol:olds.length=n * d.size) (hor:relCs G cs olds) (hsrc:Src c.P G w d.size z ys news)
  (hc:cp < n+ys.length) (hb:0 < d.bytes) (hfit:(n+ys.length) * d.bytes≤140737488355328) :
  Gives (m ++ s0) G w ((do pure (Next.value (←Builtin.append_ #[t,u] ty #[.slice base n cp,z])):Sem Next).run c.P w) (.row v (n+ys.length) d.size) ((v,.row (cs ++ ys.flatMap HV.cells) d.size e)::s0):=by
 have run:=run_append_new (ty:=ty) ht hu hdu hd hold hsrc hc hb hfit
 have hcap:=capOf_ge w (n+ys.length) cp e
 have hz:=new_size d hd hol hsrc.length hcap
 have c2:relCs G (ys.flatMap HV.cells) news:=relAts_flatMap (rd:=fun j=>news[j]?) (hsrc.rel G _ 0 (.refl G) fun j _=>by rw [Nat.zero_add]) hsrc.length fun j _=>by rw [Nat.zero_add]
 refine ⟨.slice (some ⟨w.heap.size,0,none⟩) (n+ys.length) (capOf w (n+ys.length) cp e),World.pushed w.drew (.cells (olds.toArray ++ news.toArray ++ Builtin.zeroCells d.zero.cells (capOf w (n+ys.length) cp e - (n+ys.length))) e),G.rowAs v w.heap.size (capOf w (n+ys.length) cp e),.inl (by rw [Sem.run_bind,run];rfl),row_rel hcap,rowAs_post (b:=w.heap.size) h hv hv1 (.inl (Nat.le_refl _)) (fun b' _ hb'=>?_) (show w.heap.size≤(w.heap.push _).size by simp) (show w.heap.size < (w.heap.push _).size by simp) (fun o=>h.K_new (Nat.le_refl _) o) rfl rfl rfl fun le=>?_⟩
 ·have hw:w.drew.heap=w.heap:=rfl
  rw [pushed_lt _ _ (by rw [hw];exact hb'),hw]
 ·refine ⟨w.heap.size,_,_,by simp [Ghost.rowAs],by simp [Ghost.rowAs],by simp [Ghost.rowAs],pushed_new w.drew _,hz,?_,?_,fun o=>h.K_new (Nat.le_refl _) o⟩
  ·have h1:=relCs_length hor
   have h2:=relCs_length c2
   simp only [List.length_append,Array.size_append,List.size_toArray]
   omega
  ·have h1:=relCs_length hor
   have h2:=relCs_length c2
   have:=relCs.mono le _ _ (relCs_append hor c2)
   rw [show (olds.toArray ++ news.toArray ++ Builtin.zeroCells d.zero.cells (capOf w (n+ys.length) cp e - (n+ys.length))).toList=(olds ++ news) ++ (Builtin.zeroCells d.zero.cells (capOf w (n+ys.length) cp e - (n+ys.length))).toList by simp]
   rw [List.take_append_of_le_length (by simp only [List.length_append];omega),List.take_of_length_le (by simp only [List.length_append];omega)]
   exact this
/-- To nil. -/
theorem row_nil {c:Cx} {s0:HS} {G:Ghost} {w:World} {v:Nat} (h:SRel G ([(v,.void),(v+1,.void)] ++ s0) w) {t u ty e:TypeId} {d:TyD} {du:TypeDesc} (ht:∀ w:World,(underlying t).run c.P w = .ok (.slice e) w) (hu:∀ w:World,(underlying u).run c.P w = .ok du w) (hdu:du = .string∨∃ e',du = .slice e') (hd:TyOK c.P e d)
  {ys:List HV} {z:Value} {news:List Value} (hsrc:Src c.P G w d.size z ys news) (h0:0 < ys.length) (hb:0 < d.bytes) (hfit:ys.length * d.bytes≤140737488355328) :
  Gives ([(v,.void),(v+1,.void)] ++ s0) G w ((do pure (Next.value (←Builtin.append_ #[t,u] ty #[.slice none 0 0,z])):Sem Next).run c.P w) (.row v ys.length d.size) ((v,.row (ys.flatMap HV.cells) d.size e)::s0):=by
 have:=row_moved (ty:=ty) (base:=none) (n:=0) (v:=v) (cp:=0) (cs:=[]) (olds:=[]) h (by simp) (by simp) ht hu hdu hd (fun w' _=>by simp [Builtin.firstCells]) (by simp) (by simp [relCs]) hsrc (by omega) hb (by simpa using hfit)
 simpa using this
/-- To a row. -/
theorem row_app {c:Cx} {s0:HS} {G:Ghost} {w:World} {v r n:Nat} {cs:List HV} {t u ty e:TypeId} {d:TyD} {du:TypeDesc} (h:SRel G ([(v,.void),(v+1,.void),(r,.row cs d.size e)] ++ s0) w) (ht:∀ w:World,(underlying t).run c.P w = .ok (.slice e) w) (hu:∀ w:World,(underlying u).run c.P w = .ok du w) (hdu:du = .string∨∃ e',du = .slice e') (hd:TyOK c.P e d)
  {ys:List HV} {p z:Value} {news:List Value} (hp:rel G (.row r n d.size) p) (hn:n * d.size≤cs.length) (hsrc:Src c.P G w d.size z ys news) (h0:0 < ys.length) (hb:0 < d.bytes) (hs:0 < d.size) (hfit:(n+ys.length) * d.bytes≤140737488355328) :
  Gives ([(v,.void),(v+1,.void),(r,.row cs d.size e)] ++ s0) G w ((do pure (Next.value (←Builtin.append_ #[t,u] ty #[p,z])):Sem Next).run c.P w) (.row v (n+ys.length) d.size) ((v,.row (cs.take (n * d.size) ++ ys.flatMap HV.cells) d.size e)::s0):=by
 obtain ⟨b,cp,e1,e2,hle,rfl⟩:=rel_row hp
 obtain ⟨b',cp',vs,o1,o2,ro,hh,hsz,hlen,hcs,hK⟩:=h.holds r (.row cs d.size e) (by simp)
 rw [e1] at o1;cases o1
 rw [e2] at o2;cases o2
 have hl:=relCs_length hcs
 have hcs1:relCs G (cs.take (n * d.size)) (vs.toList.take (n * d.size)):=by
  have:=relCs_take (n * d.size) hcs
  rwa [List.take_take,Nat.min_eq_left hn] at this
 have hol:(vs.toList.take (n * d.size)).length=n * d.size:=by simp;omega
 rcases Nat.lt_or_ge cp (n+ys.length) with hlt|hge
 ·refine row_moved (ty:=ty) (v:=v) (olds:=vs.toList.take (n * d.size)) h (by simp) (by simp) ht hu hdu hd (fun w' hw=>?_) hol hcs1 hsrc hlt hb hfit
  refine run_firstCells_some w' d.size n ⟨b,0,none⟩ n cp (vs.toList.take (n * d.size)) hol fun j u hj=>?_
  have hj':=(List.getElem?_eq_some_iff.1 hj).1
  rw [add_plain,cell_of_heap hw]
  simp only [World.cell?,hh,Option.isSome_none,Bool.false_eq_true,if_false,Nat.zero_add]
  rw [List.getElem?_take_of_lt (by omega)] at hj
  rw [←Array.getElem?_toList];exact hj
 ·have hnl:=hsrc.length
  have hge2:(n+ys.length) * d.size≤cp * d.size:=Nat.mul_le_mul_right _ hge
  rw [Nat.add_mul] at hge2
  have run:=run_append_room' (ty:=ty) ht hu hdu hd (n:=n) (c:=cp) (o:=0) hh hsrc hge (by omega)
  simp only [Nat.zero_add] at run
  have c2:relCs G (ys.flatMap HV.cells) news:=relAts_flatMap (rd:=fun j=>news[j]?) (hsrc.rel G _ 0 (.refl G) fun j _=>by rw [Nat.zero_add]) hsrc.length fun j _=>by rw [Nat.zero_add]
  have h2:=relCs_length c2
  have hlt:b < w.heap.size:=(h.role b r ro).1
  have get:=setRow_get w b vs (vs.toList.take (n * d.size) ++ news ++ vs.toList.drop (n * d.size+news.length)).toArray e hh
  have hcl:(vs.toList.take (n * d.size) ++ news ++ vs.toList.drop (n * d.size+news.length)).toArray.size=vs.size:=by simp;omega
  refine ⟨.slice (some ⟨b,0,none⟩) (n+ys.length) cp,w.setRow b (vs.toList.take (n * d.size) ++ news ++ vs.toList.drop (n * d.size+news.length)).toArray,G.rowAs v b cp,.inl (by rw [Sem.run_bind,run];rfl),row_rel hge,rowAs_post (b:=b) (v:=v) h (by simp) (by simp) (.inr ⟨r,ro,by simp [keys]⟩) (fun b' hne _=>by rw [get,if_neg hne]) (by rw [setRow_size];exact Nat.le_refl _) (by rw [setRow_size];exact hlt) hK rfl rfl rfl fun le=>?_⟩
  refine ⟨b,cp,(vs.toList.take (n * d.size) ++ news ++ vs.toList.drop (n * d.size+news.length)).toArray,by simp [Ghost.rowAs],by simp [Ghost.rowAs],by simp [Ghost.rowAs],setRow_heap w b vs _ e _ hh,by rw [hcl];exact hsz,?_,?_,hK⟩
  ·rw [hcl]
   have h1:=relCs_length hcs1
   simp only [List.length_append]
   omega
  ·have h1:=relCs_length hcs1
   have:=relCs.mono le _ _ (relCs_append hcs1 c2)
   have el:(vs.toList.take (n * d.size) ++ news ++ vs.toList.drop (n * d.size+news.length)).toArray.toList.take (cs.take (n * d.size) ++ ys.flatMap HV.cells).length=vs.toList.take (n * d.size) ++ news:=by
    have h1:=relCs_length hcs1
    rw [List.take_append_of_le_length (by simp only [List.length_append] at h1 ⊢;omega),List.take_of_length_le (by simp only [List.length_append] at h1 ⊢;omega)]
   rw [el]
   exact this
end Go.Proofs.Hk

set_option linter.unusedVariables false
namespace Go.Proofs.Hk
noncomputable section
open Go
/-- A call that tells something out of a family. -/
theorem callTX (c:Cx) {α:Type} {φ:α→Prop} {v:α→HV} {S:α→HS} {f:FuncId} {xs:List HV} {s1 s t:HS} {K E:HV→HS→Prop} (h:HCalls c.P f xs s1 fun e st=>∃ x,φ x∧e = .ret (v x)∧st=S x) (p:HTake s s1 t) (hk:∀ x,φ x→forceL (S x ++ t) (K (v x))):CallWp c f xs s K E:=
 callWp c (HCalls.use (t:=t) (R':=fun e st=>∃ x,φ x∧e = .ret (v x)∧st=S x ++ t) h (List.perm_append_comm.trans (List.perm_append_comm.trans p.perm)) fun e s3 ⟨x,h0,h1,h2⟩=>⟨x,h0,h1,by rw [h2]⟩) (fun y s' ⟨x,h0,h1,h2⟩=>by
  cases h1
  subst h2
  have:=hk x h0
  rw [forceL_eq] at this
  exact this) (fun y s' ⟨x,h0,h1,h2⟩=>by cases h1)
theorem HCalls.toX {P:Program} {f:FuncId} {xs:List HV} {s:HS} {α:Type} {φ:α→Prop} {v:α→HV} {S:α→HS} (h:HCalls P f xs s fun e st=>∃ x,φ x∧WeakerE e (.ret (v x))∧Subp (S x) st):HCalls P f xs s fun e st=>∃ x,φ x∧e = .ret (v x)∧st=S x:=
 HCalls.weaken h fun e s1 ⟨x,h0,h1,h2⟩=>⟨.ret (v x),S x,h1,h2,x,h0,rfl,rfl⟩
theorem HCalls.one {P:Program} {f:FuncId} {xs:List HV} {s:HS} {α:Type} {φ:α→Prop} {v:α→HV} {S:α→HS} (x:α) (h0:φ x) (h:HCalls P f xs s fun e st=>e = .ret (v x)∧st=S x):HCalls P f xs s fun e st=>∃ x,φ x∧e = .ret (v x)∧st=S x:=
 h.mono fun e st ⟨h1,h2⟩=>⟨x,h0,h1,h2⟩
theorem relVs_nilOwn {G:Ghost} {i sz:Nat} {tp:Top} (ht:G.top i=some tp):∀ {pre post:List HV} {us:List Value},relVs G (pre ++ .v (.slice none 0 0)::post) us→relVs G (pre ++ .list (.own i 0) sz []::post) us
 |[],post,us,h=>by
  simp only [List.nil_append,relVs_cons] at h ⊢
  obtain ⟨u,us',e,h1,h2⟩:=h
  refine ⟨u,us',e,?_,h2⟩
  have:=rel_v_eq h1
  subst this
  exact list_rel_nil ⟨_,ht,Nat.zero_le _⟩
 |x::pre,post,us,h=>by
  simp only [List.cons_append,relVs_cons] at h ⊢
  obtain ⟨u,us',e,h1,h2⟩:=h
  exact ⟨u,us',e,h1,relVs_nilOwn ht h2⟩
/-- Nothing handed on is a row of one's own. -/
theorem HCalls.nilOwn {P:Program} {f:FuncId} {pre post:List HV} {s:HS} {R:HEnd→HS→Prop} (sz:Nat) (h:∀ q,q∉keys s→HCalls P f (pre ++ .list (.own q 0) sz []::post) ((q,.tok 0)::s) R):HCalls P f (pre ++ .v (.slice none 0 0)::post) s R:=
 ⟨fun G w vs hs ha=>by
  obtain ⟨G',le,ht,P1⟩:=post_tok hs 0
  have hq:G.lim∉keys s:=fun hm=>by have:=hs.lt_key hm;omega
  exact ((h G.lim hq).out G' w vs P1.srel (relVs_nilOwn ht (relVs.mono0 le.to0 _ _ ha))).mono fun e w' ⟨he,s',G2,hR,hr,hp⟩=>⟨he,s',G2,hR,hr,P1.trans hs hp⟩⟩
end
end Go.Proofs.Hk

set_option linter.unusedVariables false
namespace Go.Proofs.Hk
noncomputable section
open Go
/-! A region whose order is drawn, in which one operation calls a function whose result is one of a family. -/
section
variable (P:Program) (n:Nat) (ops:Array Oper) (t:HS) (E R:Nat→Option Nat) (X p:Nat) (oX:Oper)
def YX (g:GF) (qs:List HS) (Φ:HV→HS→Prop):Prop:=
 (∀ d,oX.dst=some d→d < n)∧∀ G w ra,SRel G (qs.flatten ++ t) w→FOn (oX.looksAt ops) G n g ra→
  Region.wanted oX (yielded ops ra.tmps)=true∧OpTo P oX ra w fun u w'=>∃ x m' G',Φ x m'∧rel G' x u∧Post (qs.flatten ++ t) G w ((qs.set p m').flatten ++ t) G' w'
def Fam (g:GF) (a:List HS) (K:GF→List HS→Prop):Prop:=
 ∃ Φ:HV→HS→Prop,(∀ qs:List HS,qs[p]? = a[p]?→YX P n ops t p oX g qs Φ)∧∀ x m',Φ x m'→K (gput g oX.dst (.sure,x)) (a.set p m')
variable {P n ops t p oX} in
theorem Fam.mono {g:GF} {a:List HS} {K K':GF→List HS→Prop} (h:Fam P n ops t p oX g a K) (hk:∀ g a,K g a→K' g a):Fam P n ops t p oX g a K':=by
 obtain ⟨Φ,h1,h2⟩:=h
 exact ⟨Φ,h1,fun x m' hx=>hk _ _ (h2 x m' hx)⟩
def qOpX (i:Nat) (K:GF→List HS→Prop) (g:GF) (a:List HS):Prop:=if i=X then Fam P n ops t p oX g a K else qOpN P n ops t E R i K g a
theorem qOpX_mono {i:Nat} {K K':GF→List HS→Prop} (h:∀ g a,K g a→K' g a) {g:GF} {a:List HS} (hh:qOpX P n ops t E R X p oX i K g a):qOpX P n ops t E R X p oX i K' g a:=by
 unfold qOpX at *
 split
 ·rename_i e;rw [if_pos e] at hh;exact hh.mono h
 ·rename_i e;rw [if_neg e] at hh;exact qOpN_mono P n ops t E R h hh
theorem YX.put {g:GF} {qs:List HS} {Φ:HV→HS→Prop} (h:YX P n ops t p oX g qs Φ) {dst:Option Tmp} (hd:∀ d,dst=some d→d∉oX.looksAt ops) (e':Tag × HV):YX P n ops t p oX (gput g dst e') qs Φ:=by
 refine ⟨h.1,fun G w ra hs hf=>h.2 G w ra hs ⟨hf.size,hf.defers,fun s hs' tg x eq=>hf.slots s hs' tg x ?_⟩⟩
 cases dst with
 |none=>exact eq
 |some d=>
  simp only [gput]
  rw [if_neg (fun hh:s=d=>hd d rfl (hh ▸ hs'))]
  exact eq
theorem YX.unput {g:GF} {qs:List HS} {Φ:HV→HS→Prop} {dst:Option Tmp} {e':Tag × HV} (h:YX P n ops t p oX (gput g dst e') qs Φ) (hd:∀ d,dst=some d→d∉oX.looksAt ops):YX P n ops t p oX g qs Φ:=by
 refine ⟨h.1,fun G w ra hs hf=>h.2 G w ra hs ⟨hf.size,hf.defers,fun s hs' tg x eq=>hf.slots s hs' tg x ?_⟩⟩
 cases dst with
 |none=>exact eq
 |some d=>
  simp only [gput] at eq
  rw [if_neg (fun hh:s=d=>hd d rfl (hh ▸ hs'))] at eq
  exact eq
theorem Fam.put {i:Nat} {oi:Oper} {e:Tag × HV} (hE:E X=some p) (hap:apartN ops E R i X oi oX=true) {K:GF→List HS→Prop} {g:GF} {a a':List HS}
  (hy:YFN P n ops t E R i oi g a e a') (h:Fam P n ops t p oX (gput g oi.dst e) a' K) :
  Fam P n ops t p oX g a (fun g1 a1=>∃ a2,YFN P n ops t E R i oi g1 a1 e a2∧K (gput g1 oi.dst e) a2):=by
 simp only [apartN,Bool.and_eq_true] at hap
 obtain ⟨hap0,hap1⟩:=hap
 obtain ⟨h1,h2,h3⟩:=Oper.apart_spec hap0
 have ne:∀ {p q:Nat},(!(Nat.beq p q))=true→p≠q:=fun {p q} h e=>by subst e;simp at h
 obtain ⟨Φ,k1,k2⟩:=h
 unfold YFN at hy ⊢
 simp only [hE] at hap1
 cases hEi:E i with
 |some q=>
  simp only [hEi] at hy ⊢ hap1
  obtain ⟨m',hy1,rfl,hy2⟩:=hy
  have hpq:q≠p:=ne hap1
  refine ⟨Φ,fun qs hqs=>YX.unput P n ops t p oX (k1 qs (by rw [hqs,List.getElem?_set_ne hpq])) h1,fun x mx hx=>⟨_,⟨m',hy1,rfl,fun qs hqs=>(hy2 qs ?_).put P n ops t h3 _⟩,?_⟩⟩
  ·rw [hqs,List.getElem?_set_ne (Ne.symm hpq)]
  ·rw [←gput_comm g e _ h2,List.set_comm _ _ (Ne.symm hpq)];exact k2 x mx hx
 |none=>
  simp only [hEi] at hy ⊢ hap1
  cases hRi:R i with
  |some q=>
   simp only [hRi] at hy ⊢ hap1
   obtain ⟨rfl,hy⟩:=hy
   have hpq:p≠q:=Ne.symm (ne hap1)
   refine ⟨Φ,fun qs hqs=>YX.unput P n ops t p oX (k1 qs hqs) h1,fun x mx hx=>⟨_,⟨rfl,fun qs hqs=>(hy qs (by rw [hqs,List.getElem?_set_ne hpq])).put P n ops t h3 _⟩,?_⟩⟩
   rw [←gput_comm g e _ h2];exact k2 x mx hx
  |none=>
   simp only [hRi] at hy ⊢
   obtain ⟨rfl,hy⟩:=hy
   refine ⟨Φ,fun qs hqs=>YX.unput P n ops t p oX (k1 qs hqs) h1,fun x mx hx=>⟨_,⟨rfl,fun m0=>(hy m0).put P n ops t h3 _⟩,?_⟩⟩
   rw [←gput_comm g e _ h2];exact k2 x mx hx
def wpAnyX (Q:GF→List HS→Prop):Nat→Array Bool→GF→List HS→Prop
 |0,listed,g,a=>Region.ready .any ops listed=[]∧Q g a
 |fuel+1,listed,g,a=>
  (Region.ready .any ops listed=[]→Q g a)∧
  ∀ i∈Region.ready .any ops listed,qOpX P n ops t E R X p oX i (wpAnyX Q fuel (listed.setIfInBounds i true)) g a
theorem wpAny_of_X (hX:ops[X]? = some oX) {Q:GF→List HS→Prop} {Q':Exit→Act→World→Prop} {s0:HS} {G0:Ghost} {w0:World} (h0:SRel G0 s0 w0)
  (hQ:∀ g a G w ra,Post s0 G0 w0 (a.flatten ++ t) G w→FAll G n g ra→Q g a→Q' .normal ra w) :
  ∀ (fuel:Nat) (listed:Array Bool) (g:GF) (a:List HS) (G:Ghost) (w:World) (ra:Act),Post s0 G0 w0 (a.flatten ++ t) G w→FAll G n g ra→wpAnyX P n ops t E R X p oX Q fuel listed g a→wpAnyY P .any ops Q' fuel listed ra w
 |0,_,g,a,G,w,ra,hp,hf,h=>⟨h.1,hQ g a G w ra hp hf h.2⟩
 |fuel+1,listed,g,a,G,w,ra,hp,hf,h=>⟨fun h1=>hQ g a G w ra hp hf (h.1 h1),fun i hi=>by
   have hi:=h.2 i hi
   unfold qOpX at hi
   split at hi
   ·rename_i hiX
    obtain ⟨Φ,k1,k2⟩:=hi
    obtain ⟨hd,hy⟩:=k1 a rfl
    obtain ⟨hw,hto⟩:=hy G w ra hp.srel (hf.on _)
    unfold wpOpY
    rw [hiX] at k2 ⊢
    simp only [hX]
    rw [hw,if_pos rfl]
    refine .inl (hto.wp fun u w' ⟨x,m',G',hΦ,hr,hp'⟩=>?_)
    exact wpAny_of_X hX h0 hQ fuel _ _ (a.set p m') G' w' _ (hp.trans h0 hp') ((hf.mono hp'.ext.le).put hd (tg:=.sure) hr) (k2 x m' hΦ)
   unfold qOpN at hi
   unfold wpOpY
   have step:∀ {o:Oper} {e:Tag × HV} {a':List HS},YH P n ops t o g a.flatten e a'.flatten→(tgB e.1=false→a'=a)→wpAnyX P n ops t E R X p oX Q fuel (listed.setIfInBounds i true) (gput g o.dst e) a'→
     if Region.wanted o (yielded ops ra.tmps)=true then Oper.wpY P o ra w (wpAnyY P .any ops Q' fuel (listed.setIfInBounds i true)) Q'∨(False∧LetsOut Q') else wpAnyY P .any ops Q' fuel (listed.setIfInBounds i true) (ra.put o.dst undef) w:=by
    intro o e a' hy hoff hK
    obtain ⟨hd,hy⟩:=hy
    obtain ⟨hw,hto⟩:=hy G w ra hp.srel (hf.on _)
    rw [hw]
    cases hb:tgB e.1 with
    |true=>
     rw [if_pos rfl]
     refine .inl ((hto hb).wp fun u w' ⟨G',hr,hp'⟩=>?_)
     refine wpAny_of_X hX h0 hQ fuel _ _ a' G' w' _ (hp.trans h0 hp') ((hf.mono hp'.ext.le).put hd ?_) hK
     cases he:e.1 with
     |sure=>exact hr
     |cond b=>rw [he] at hb;exact ⟨fun _=>hr,(fun hb'=>by rw [show b=true from hb] at hb';cases hb')⟩
    |false=>
     rw [if_neg (by simp)]
     obtain rfl:=hoff hb
     refine wpAny_of_X hX h0 hQ fuel _ _ a' G w _ hp (hf.put hd ?_) hK
     cases he:e.1 with
     |sure=>rw [he] at hb;cases hb
     |cond b=>rw [he] at hb;exact ⟨(fun hb'=>by rw [show b=false from hb] at hb';cases hb'),fun _=>rfl⟩
   split
   ·rename_i ho;simp only [ho] at hi;exact wpAny_of_X hX h0 hQ fuel _ g a G w ra hp hf hi
   ·rename_i o ho
    simp only [ho] at hi
    split at hi
    ·obtain ⟨e,a',h1,h2,h3⟩:=hi
     exact step (h2 a rfl) (fun h=>by rw [h1] at h;cases h) h3
    ·split at hi
     ·obtain ⟨e,h2,h3⟩:=hi
      exact step (h2 a rfl) (fun _=>rfl) h3
     ·obtain ⟨e,h2,h3⟩:=hi
      exact step (h2 a.flatten) (fun _=>rfl) h3⟩
theorem qOpX_put {i j:Nat} {oi oj:Oper} {e:Tag × HV} (hX:ops[X]? = some oX) (hE:E X=some p) (hj:ops[j]? = some oj) (hap:apartN ops E R i j oi oj=true) {K:GF→List HS→Prop} {g:GF} {a a':List HS}
  (hy:YFN P n ops t E R i oi g a e a') (h:qOpX P n ops t E R X p oX j K (gput g oi.dst e) a') :
  qOpX P n ops t E R X p oX j (fun g1 a1=>∃ a2,YFN P n ops t E R i oi g1 a1 e a2∧K (gput g1 oi.dst e) a2) g a:=by
 unfold qOpX at *
 split
 ·rename_i hjX
  rw [if_pos hjX] at h
  subst hjX
  have:oj=oX:=by rw [hX] at hj;cases hj;rfl
  subst this
  exact Fam.put P n ops t E R j p oj hE hap hy h
 ·rename_i hjX
  rw [if_neg hjX] at h
  exact qOpN_put P n ops t E R hj hap hy h
theorem wpAnyX_first (hX:ops[X]? = some oX) (hE:E X=some p) {Q:GF→List HS→Prop} {i:Nat} {oi:Oper} {e:Tag × HV} (hi:ops[i]? = some oi) (hiX:i≠X) :
  ∀ (fuel:Nat) (listed:Array Bool) (g:GF) (a a':List HS),
   (∀ j oj,ops[j]? = some oj→j≠i→listed.getD j true=false→(∀ e∈oj.after,Region.binds .any e=true→e.on≠i)→apartN ops E R i j oi oj=true)→
   i∈Region.ready .any ops listed→YFN P n ops t E R i oi g a e a'→
   wpAnyX P n ops t E R X p oX Q fuel (listed.setIfInBounds i true) (gput g oi.dst e) a'→wpAnyX P n ops t E R X p oX Q (fuel+1) listed g a:=by
 intro fuel
 induction fuel with
 |zero=>
  intro listed g a a' _ hr hy H
  refine ⟨fun h=>(by rw [h] at hr;cases hr),fun j hj=>?_⟩
  by_cases hji:j=i
  ·subst hji;unfold qOpX;rw [if_neg hiX];exact hy.qOp P n ops t E R hi H
  ·have:=ready_mono hj hji
   rw [H.1] at this
   cases this
 |succ fuel ih=>
  intro listed g a a' hfree hr hy H
  refine ⟨fun h=>(by rw [h] at hr;cases hr),fun j hj=>?_⟩
  by_cases hji:j=i
  ·subst hji;unfold qOpX;rw [if_neg hiX];exact hy.qOp P n ops t E R hi H
  ·have h1:=H.2 j (ready_mono hj hji)
   obtain ⟨hjun,oj,hoj,hall⟩:=mem_ready.1 hj
   have hnot:∀ e∈oj.after,Region.binds .any e=true→e.on≠i:=fun e he hb heq=>by
    have h1:=hall e he hb
    have h0:=(mem_ready.1 hr).1
    rw [heq] at h1
    rcases Nat.lt_or_ge i listed.size with h'|h'
    ·simp [h'] at h0 h1;rw [h0] at h1;cases h1
    ·simp [Array.getElem?_eq_none h'] at h1
   have h2:=qOpX_put P n ops t E R X p oX hX hE hoj (hfree j oj hoj hji hjun hnot) hy h1
   have hfree':∀ k ok,ops[k]? = some ok→k≠i→(listed.setIfInBounds j true).getD k true=false→
     (∀ e∈ok.after,Region.binds .any e=true→e.on≠i)→apartN ops E R i k oi ok=true:=fun k ok hk hki hun hno=>by
    refine hfree k ok hk hki ?_ hno
    by_cases hjk:j=k
    ·subst hjk;exact hjun
    ·rw [getD_set_ne true hjk] at hun;exact hun
   refine qOpX_mono P n ops t E R X p oX (fun g1 a1 ⟨a2,h3,h4⟩=>ih (listed.setIfInBounds j true) g1 a1 a2 hfree' (ready_mono hr (Ne.symm hji)) h3 ?_) h2
   rw [Array.setIfInBounds_comm _ _ hji]
   exact h4
theorem textN_mono {Q Q':GF→List HS→Prop} (h:∀ g a,Q g a→Q' g a):∀ (l:List Nat) (g:GF) (a:List HS),textN P n ops t E R Q l g a→textN P n ops t E R Q' l g a
 |[],_,_,k=>h _ _ k
 |k::l,g,a,hh=>qOpN_mono P n ops t E R (fun g a=>textN_mono h l g a) hh
def lexX2:List Nat→Array Bool→Bool
 |[],listed=>(Region.ready .any ops listed).isEmpty
 |k::l,listed=>(Region.ready .any ops listed).contains k && freeN ops E R listed k && !(Nat.beq k X) && lexX2 l (listed.setIfInBounds k true)
def lexX1 (l2:List Nat):List Nat→Array Bool→Bool
 |[],listed=>(match Region.ready .any ops listed with
  |[k]=>Nat.beq k X
  |_=>false) && lexX2 ops E R X l2 (listed.setIfInBounds X true)
 |k::l,listed=>(Region.ready .any ops listed).contains k && freeN ops E R listed k && !(Nat.beq k X) && lexX1 l2 l (listed.setIfInBounds k true)
theorem neX {k X:Nat} (h:(!(Nat.beq k X))=true):k≠X:=fun e=>by subst e;simp at h
theorem wpAnyX_end (hX:ops[X]? = some oX) (hE:E X=some p) {Q:GF→List HS→Prop} : ∀ (l:List Nat) (listed:Array Bool) (g:GF) (a:List HS),lexX2 ops E R X l listed=true→textN P n ops t E R Q l g a→wpAnyX P n ops t E R X p oX Q l.length listed g a
 |[],_,_,_,hB,h=>⟨by simpa [lexX2] using hB,h⟩
 |k::l,listed,g,a,hB,h=>by
  simp only [lexX2,Bool.and_eq_true] at hB
  obtain ⟨⟨⟨hr,hf⟩,hk⟩,hB'⟩:=hB
  have hr':k∈Region.ready .any ops listed:=by simpa using hr
  obtain ⟨_,o,h0,_⟩:=mem_ready.1 hr'
  obtain ⟨e,a',hy,hK⟩:=yfN_of_qOp P n ops t E R h0 h
  exact wpAnyX_first P n ops t E R X p oX hX hE h0 (neX hk) l.length listed g a a' (freeN_spec ops E R h0 hf) hr' hy (wpAnyX_end hX hE l _ _ _ hB' hK)
theorem wpAnyX_lex (hX:ops[X]? = some oX) (hE:E X=some p) {Q:GF→List HS→Prop} (l2:List Nat):∀ (l:List Nat) (listed:Array Bool) (g:GF) (a:List HS),lexX1 ops E R X l2 l listed=true→textN P n ops t E R (fun g a=>Fam P n ops t p oX g a (textN P n ops t E R Q l2)) l g a→wpAnyX P n ops t E R X p oX Q (l2.length+1+l.length) listed g a
 |[],listed,g,a,hB,h=>by
  simp only [lexX1,Bool.and_eq_true] at hB
  obtain ⟨hr,hB'⟩:=hB
  have hr:Region.ready .any ops listed=[X]:=by
   split at hr
   ·rename_i k hk;rw [hk,Nat.eq_of_beq_eq_true hr]
   ·cases hr
  refine ⟨fun h=>(by rw [hr] at h;cases h),fun i hi=>?_⟩
  rw [hr] at hi
  have:i=X:=by simpa using hi
  subst this
  unfold qOpX
  rw [if_pos rfl]
  exact Fam.mono h fun g a h=>wpAnyX_end P n ops t E R _ p oX hX hE l2 _ g a hB' h
 |k::l,listed,g,a,hB,h=>by
  simp only [lexX1,Bool.and_eq_true] at hB
  obtain ⟨⟨⟨hr,hf⟩,hk⟩,hB'⟩:=hB
  have hr':k∈Region.ready .any ops listed:=by simpa using hr
  obtain ⟨_,o,h0,_⟩:=mem_ready.1 hr'
  obtain ⟨e,a',hy,hK⟩:=yfN_of_qOp P n ops t E R h0 h
  exact wpAnyX_first P n ops t E R X p oX hX hE h0 (neX hk) (l2.length+1+l.length) listed g a a' (freeN_spec ops E R h0 hf) hr' hy (wpAnyX_lex hX hE l2 l _ _ _ hB' hK)
end
/-- What comes before the call. -/
structure DX (c:Cx) (n:Nat) (all:Array Oper) (t:HS) (E R:List (List Nat)) (Z:Fr→List HS→Prop) (l:List Nat) (f:Fr) (ps:List HS):Prop where
 out:textN c.P n all t (partOf E 0) (partOf R 0) (fun g ps=>∃ f',(fun t=>f'.get t)=g∧Z f' ps) l (fun t=>f.get t) ps
/-- The call, and what comes behind it. -/
structure DFam (c:Cx) (n:Nat) (all:Array Oper) (t:HS) (E R:List (List Nat)) (Q:HExit→Fr→HS→Prop) (p:Nat) (o:Oper) (l2:List Nat) (f:Fr) (ps:List HS):Prop where
 out:Fam c.P n all t p o (fun t=>f.get t) ps (textN c.P n all t (partOf E 0) (partOf R 0) (fun g ps=>∃ f',(fun t=>f'.get t)=g∧Q .normal f' (ps.flatten ++ t)) l2)
section
variable {c:Cx} {n:Nat} {all:Array Oper} {t:HS} {E R:List (List Nat)} {Q:HExit→Fr→HS→Prop} {Z:Fr→List HS→Prop} {f:Fr} {ps:List HS}
theorem DX.nil (h:Z f ps):DX c n all t E R Z [] f ps:=⟨f,rfl,h⟩
def dstB (n:Nat):Option Tmp→Bool
 |none=>true
 |some d=>Nat.blt d n
theorem DFam.call {o:Oper} {p:Nat} {l2:List Nat} {a:HS} {α:Type} {ψ:α→Prop} {v:α→HV} {S:α→HS} {fn:FuncId} {φ:Prop} {xs:List HV} (ha:ps[p]? = some a) (hact:active all f o=some .sure) (hb:dstB n o.dst=true) {s:HS} (e:a ++ t=s)
  (ho:hop c o.op f s = .call φ fn xs) (hφ:φ) (h:HCalls c.P fn xs a fun e st=>∃ x,ψ x∧e = .ret (v x)∧st=S x)
  (k:∀ x,ψ x→PutD n o.dst .sure (fun f'=>DN c n all t E R Q l2 f' (ps.set p (S x))) f (v x)):DFam c n all t E R Q p o l2 f ps:=by
 subst e
 refine ⟨fun y m=>∃ x,ψ x∧y=v x∧m=S x,fun qs hqs=>⟨fun d hd=>?_,fun G w ra hs hf=>⟨d2_want hact hf,?_⟩⟩,?_⟩
 ·rw [hd] at hb;exact Nat.lt_of_lt_of_le (Nat.le_of_ble_eq_true (m:=n) hb) (Nat.le_refl _)
 ·rw [ha] at hqs
  have hs1:SRel G ((a ++ t) ++ (qs.eraseIdx p).flatten) w:=hs.permd (perm_join hqs t).symm
  have hs2:=hs1.perm (List.sublist_append_left _ _)
  have sem:ResOK c.P (a ++ t) G w ((execOp ra.eval o).run c.P w) (hop c o.op f (a ++ t)):=d2_sem hs2 hf.rel
  rw [ho] at sem
  obtain ⟨vs,hr,hx⟩:=sem hφ
  have hc:=HCalls.use (t:=t) (R':=fun e st=>∃ x,ψ x∧e = .ret (v x)∧st=S x ++ t) h (.refl _) fun e s1 ⟨x,h0,h1,h2⟩=>⟨x,h0,h1,by rw [h2]⟩
  unfold OpTo
  rw [hr]
  refine (hc.out G w vs hs2 hx).mono fun e w'' ⟨he,s1,G',⟨x,h0,h1,h2⟩,h3,h4⟩=>?_
  subst h1 h2
  cases e<;>first|exact h3.elim|skip
  exact ⟨_,rfl,v x,S x,G',⟨x,h0,rfl,rfl⟩,h3,((Post.frame hs1 h4).permL (perm_join hqs t)).permR (perm_join2 hqs t)⟩
 ·rintro y m ⟨x,h0,rfl,rfl⟩
  obtain ⟨f',hf',hK⟩:=k x h0
  obtain ⟨g1,g2⟩:=hput_get hf'
  exact g1 ▸ hK.out
theorem DX.quiet {k:Nat} {l:List Nat} {o:Oper} {tg:Tag} (hk:all[k]? = some o) (h1:partOf E 0 k=none) (h2:partOf R 0 k=none) (hact:active all f o=some tg)
  (h:DStp c n t tg o.dst (fun f'=>DX c n all t E R Z l f' ps) (hop c o.op f t) f):DX c n all t E R Z (k::l) f ps:=by
 constructor
 simp only [textN,qOpN,hk,h1,h2]
 have quiet:∀ {x:HV},(∀ d,o.dst=some d→d < n)→(∀ G w ra,SRel G t w→FRel G n (Fr.only (o.looksAt all) f) ra→tgB tg=true→OpTo c.P o ra w fun u w'=>∃ G',rel G' x u∧Post t G w t G' w')→YQ c.P n all t o (fun t=>f.get t) (tg,x):=fun hd hy m=>
  ⟨hd,fun G w ra hs hf=>⟨d2_want hact hf,fun hb=>(hy G w ra hs.right hf.rel hb).mono fun u w' ⟨G',hr,hp⟩=>⟨G',hr,hp.frameL hs⟩⟩⟩
 have step:∀ {x:HV},PutD n o.dst tg (fun f'=>DX c n all t E R Z l f' ps) f x→(∀ d,o.dst=some d→d < n)∧textN c.P n all t (partOf E 0) (partOf R 0) (fun g ps=>∃ f',(fun t=>f'.get t)=g∧Z f' ps) l (gput (fun t=>f.get t) o.dst (tg,x)) ps:=fun {x} ⟨f',hf',hK⟩=>by
  obtain ⟨h1,h2⟩:=hput_get hf'
  exact ⟨h2,h1 ▸ hK.out⟩
 have sem:∀ G w ra,SRel G t w→FRel G n (Fr.only (o.looksAt all) f) ra→ResOK c.P t G w ((execOp ra.eval o).run c.P w) (hop c o.op f t):=fun G w ra hs hf=>d2_sem hs hf
 have h:=h.out
 generalize hop c o.op f t=q at h sem
 induction q with
 |bad=>
  cases tg with
  |sure=>exact h.elim
  |cond b=>
   obtain ⟨hb0,x,hx⟩:=h
   obtain ⟨hd,hK⟩:=step hx
   exact ⟨(.cond b,x),quiet hd fun G w ra hs hf hb=>absurd hb (by simp [tgB,hb0]),hK⟩
 |pan φ x=>exact h.elim
 |eff W=>exact h.elim
 |pure x=>
  obtain ⟨hd,hK⟩:=step h
  exact ⟨(tg,x),quiet hd fun G w ra hs hf _=>opTo_gives (sem G w ra hs hf),hK⟩
 |val φ x=>
  have h:(tgB tg=true→φ)∧PutD n o.dst tg (fun f'=>DX c n all t E R Z l f' ps) f x:=by
   cases tg with
   |sure=>exact ⟨fun _=>h.1,h.2⟩
   |cond b=>exact ⟨h.1,h.2⟩
  obtain ⟨hφ,h⟩:=h
  obtain ⟨hd,hK⟩:=step h
  exact ⟨(tg,x),quiet hd fun G w ra hs hf hb=>opTo_gives (sem G w ra hs hf (hφ hb)),hK⟩
 |call φ g xs=>
  have h:∃ x,(tgB tg=true→φ∧QCall c g xs t x)∧PutD n o.dst tg (fun f'=>DX c n all t E R Z l f' ps) f x:=by
   cases tg with
   |sure=>obtain ⟨x,h1,h2⟩:=h;exact ⟨x,fun _=>h1 trivial,h2⟩
   |cond b=>obtain ⟨x,h1,h2⟩:=h;exact ⟨x,h1,h2⟩
  obtain ⟨x,hφ,h⟩:=h
  obtain ⟨hd,hK⟩:=step h
  refine ⟨(tg,x),quiet hd fun G w ra hs hf hb=>?_,hK⟩
  have hφ:=hφ hb
  obtain ⟨vs,hr,hx⟩:=sem G w ra hs hf hφ.1
  exact opTo_call hs hr hx hφ.2.out
 |look r k ihq=>
  obtain ⟨x,hx,h⟩:=h
  exact ihq x h fun G w ra hs hf=>sem G w ra hs hf x hx
theorem DX.turn {k p:Nat} {l:List Nat} {o:Oper} {a:HS} (hk:all[k]? = some o) (h1:partOf E 0 k=some p) (ha:ps[p]? = some a) (hact:active all f o=some .sure) {s:HS} (e:a ++ t=s)
  (h:TStp c n a t o.dst (fun f' a'=>DX c n all t E R Z l f' (ps.set p a')) (hop c o.op f s) f):DX c n all t E R Z (k::l) f ps:=by
 subst e
 constructor
 simp only [textN,qOpN,hk,h1]
 obtain ⟨x,a',⟨f',hf',hK⟩,hto⟩:=turn_to (all:=all) (f:=f) (n:=n) (o:=o) h.out (fun G w ra hs hf=>d2_sem hs hf)
 obtain ⟨g1,g2⟩:=hput_get hf'
 refine ⟨(.sure,x),a',rfl,fun qs hqs=>⟨g2,fun G w ra hs hf=>⟨d2_want hact hf,fun _=>?_⟩⟩,g1 ▸ hK.out⟩
 rw [ha] at hqs
 have hs1:SRel G ((a ++ t) ++ (qs.eraseIdx p).flatten) w:=hs.permd (perm_join hqs t).symm
 exact (hto G w ra (hs1.perm (List.sublist_append_left _ _)) hf.rel).mono fun u w' ⟨G',hr,hp⟩=>⟨G',hr,((Post.frame hs1 hp).permL (perm_join hqs t)).permR (perm_join2 hqs t)⟩
/-- An operation that reads a part and leaves it. -/
theorem DX.read {k p:Nat} {l:List Nat} {o:Oper} {tg:Tag} {a:HS} (hk:all[k]? = some o) (h1:partOf E 0 k=none) (h2:partOf R 0 k=some p) (ha:ps[p]? = some a) (hact:active all f o=some tg) {s:HS} (e:a ++ t=s)
  (h:DStp c n s tg o.dst (fun f'=>DX c n all t E R Z l f' ps) (hop c o.op f s) f):DX c n all t E R Z (k::l) f ps:=by
 subst e
 constructor
 simp only [textN,qOpN,hk,h1,h2]
 have quiet:∀ {x:HV},(∀ d,o.dst=some d→d < n)→(∀ G w ra,SRel G (a ++ t) w→FRel G n (Fr.only (o.looksAt all) f) ra→tgB tg=true→OpTo c.P o ra w fun u w'=>∃ G',rel G' x u∧Post (a ++ t) G w (a ++ t) G' w')→∀ qs:List HS,qs[p]? = ps[p]?→YH c.P n all t o (fun t=>f.get t) qs.flatten (tg,x) qs.flatten:=fun hd hy qs hqs=>
  ⟨hd,fun G w ra hs hf=>⟨d2_want hact hf,fun hb=>by
   rw [ha] at hqs
   have hs1:SRel G ((a ++ t) ++ (qs.eraseIdx p).flatten) w:=hs.permd (perm_join hqs t).symm
   exact (hy G w ra (hs1.perm (List.sublist_append_left _ _)) hf.rel hb).mono fun u w' ⟨G',hr,hp⟩=>⟨G',hr,((Post.frame hs1 hp).permL (perm_join hqs t)).permR (perm_join hqs t)⟩⟩⟩
 have step:∀ {x:HV},PutD n o.dst tg (fun f'=>DX c n all t E R Z l f' ps) f x→(∀ d,o.dst=some d→d < n)∧textN c.P n all t (partOf E 0) (partOf R 0) (fun g ps=>∃ f',(fun t=>f'.get t)=g∧Z f' ps) l (gput (fun t=>f.get t) o.dst (tg,x)) ps:=fun {x} ⟨f',hf',hK⟩=>by
  obtain ⟨h1,h2⟩:=hput_get hf'
  exact ⟨h2,h1 ▸ hK.out⟩
 have sem:∀ G w ra,SRel G (a ++ t) w→FRel G n (Fr.only (o.looksAt all) f) ra→ResOK c.P (a ++ t) G w ((execOp ra.eval o).run c.P w) (hop c o.op f (a ++ t)):=fun G w ra hs hf=>d2_sem hs hf
 have h:=h.out
 generalize hop c o.op f (a ++ t)=q at h sem
 induction q with
 |bad=>
  cases tg with
  |sure=>exact h.elim
  |cond b=>
   obtain ⟨hb0,x,hx⟩:=h
   obtain ⟨hd,hK⟩:=step hx
   exact ⟨(.cond b,x),quiet hd fun G w ra hs hf hb=>absurd hb (by simp [tgB,hb0]),hK⟩
 |pan φ x=>exact h.elim
 |eff W=>exact h.elim
 |pure x=>
  obtain ⟨hd,hK⟩:=step h
  exact ⟨(tg,x),quiet hd fun G w ra hs hf _=>opTo_gives (sem G w ra hs hf),hK⟩
 |val φ x=>
  have h:(tgB tg=true→φ)∧PutD n o.dst tg (fun f'=>DX c n all t E R Z l f' ps) f x:=by
   cases tg with
   |sure=>exact ⟨fun _=>h.1,h.2⟩
   |cond b=>exact ⟨h.1,h.2⟩
  obtain ⟨hφ,h⟩:=h
  obtain ⟨hd,hK⟩:=step h
  exact ⟨(tg,x),quiet hd fun G w ra hs hf hb=>opTo_gives (sem G w ra hs hf (hφ hb)),hK⟩
 |call φ g xs=>
  have h:∃ x,(tgB tg=true→φ∧QCall c g xs (a ++ t) x)∧PutD n o.dst tg (fun f'=>DX c n all t E R Z l f' ps) f x:=by
   cases tg with
   |sure=>obtain ⟨x,h1,h2⟩:=h;exact ⟨x,fun _=>h1 trivial,h2⟩
   |cond b=>obtain ⟨x,h1,h2⟩:=h;exact ⟨x,h1,h2⟩
  obtain ⟨x,hφ,h⟩:=h
  obtain ⟨hd,hK⟩:=step h
  refine ⟨(tg,x),quiet hd fun G w ra hs hf hb=>?_,hK⟩
  have hφ:=hφ hb
  obtain ⟨vs,hr,hx⟩:=sem G w ra hs hf hφ.1
  exact opTo_call hs hr hx hφ.2.out
 |look r k ihq=>
  obtain ⟨x,hx,h⟩:=h
  exact ihq x h fun G w ra hs hf=>sem G w ra hs hf x hx
/-- An alloc, by a name that was kept free. -/
theorem DX.alloc {k p:Nat} {l:List Nat} {o:Oper} {r:Nat} {m0:HS} {f':Fr} {tt:TypeId} {z:HV} {zs:List HV} (hk:all[k]? = some o) (h1:partOf E 0 k=some p) (ha:ps[p]? = some ((r,.void)::m0)) (hact:active all f o=some .sure) (ho:o.op = .alloc tt)
  (hz:hzero c tt=some z) (hkd:kdOk z=true) (hs:z.cells=zs) (hp:hput n o.dst .sure (.ptr r 0) f=some f') (h:DX c n all t E R Z l f' (ps.set p ((r,.cells zs tt)::m0))):DX c n all t E R Z (k::l) f ps:=by
 subst hs
 constructor
 simp only [textN,qOpN,hk,h1]
 obtain ⟨g1,g2⟩:=hput_get hp
 refine ⟨(.sure,.ptr r 0),(r,.cells z.cells tt)::m0,rfl,fun qs hqs=>⟨g2,fun G w ra hs hf=>⟨d2_want hact hf,fun _=>?_⟩⟩,g1 ▸ h.out⟩
 rw [ha] at hqs
 have hs1:SRel G ((r,.void)::(m0 ++ (t ++ (qs.eraseIdx p).flatten))) w:=hs.permd (by
  have:=(perm_join hqs t).symm
  simpa using this)
 obtain ⟨d,hd',hr⟩:=zero_ok c (G:=G) hz
 have ht:=c.ty_ok tt d hd'
 have g:=newAs_ok c.P (s:=m0 ++ (t ++ (qs.eraseIdx p).flatten)) hs1 tt hr hkd
 have e:(execOp ra.eval o).run c.P w=(do pure (Next.value (←(do pure (Value.pointer (some (←newVar tt d.zero)))))):Sem Next).run c.P w:=by
  simp [execOp,ho,Instr.alloc,ht.zero]
 rw [←e] at g
 refine (opTo_gives g).mono fun u w' ⟨G',hr,hp⟩=>⟨G',hr,(hp.permL ?_).permR ?_⟩
 ·have:=perm_join hqs t
  simpa using this
 ·have:=perm_join2 (m:=(r,.cells z.cells tt)::m0) hqs t
  simpa using this
end
theorem DX.id {c:Cx} {n:Nat} {all:Array Oper} {t:HS} {E R:List (List Nat)} {Z:Fr→List HS→Prop} {l:List Nat} {f:Fr} {ps:List HS} (h:DX c n all t E R Z l f ps):DX c n all t E R Z l f ps:=h
theorem drawX (c:Cx) {n id:Nat} {ops:Array Oper} {Q:HExit→Fr→HS→Prop} {f:Fr} {s:HS} (ps:List HS) {m t:HS} (e:ps.flatten=m) (E R:List (List Nat)) (X p:Nat) (l1 l2:List Nat) (hp:HTake s m t) {oX:Oper} (hX:ops[X]? = some oX) (hE:partOf E 0 X=some p) (hl:l2.length+1+l1.length=ops.size) (hB:lexX1 ops (partOf E 0) (partOf R 0) X l2 l1 (Array.replicate ops.size false)=true)
  (h:DX c n ops t E R (DFam c n ops t E R Q p oX l2) l1 f ps):DrawReg c.P n id ops Q f s:=
 ⟨⟨fun G w ra hs hf=>by
  subst e
  have hs':SRel G (ps.flatten ++ t) w:=hs.permd hp.perm.symm
  refine wpB_region_any c.orders ?_
  have h1:textN c.P n ops t (partOf E 0) (partOf R 0) (fun g ps=>Fam c.P n ops t p oX g ps (textN c.P n ops t (partOf E 0) (partOf R 0) (fun g ps=>∃ f',(fun t=>f'.get t)=g∧Q .normal f' (ps.flatten ++ t)) l2)) l1 (fun t=>f.get t) ps:=
   textN_mono c.P n ops t (partOf E 0) (partOf R 0) (fun g ps ⟨f',e,hZ⟩=>e ▸ hZ.out) l1 _ _ h.out
  have H:=wpAnyX_lex c.P n ops t (partOf E 0) (partOf R 0) X p oX hX hE l2 l1 _ _ _ hB h1
  rw [hl] at H
  have hp0:Post (ps.flatten ++ t) G w (ps.flatten ++ t) G { w with drawn:=w.drawn+1}:=Post.drawn hs' rfl rfl rfl rfl
  refine wpAny_of_X c.P n ops t (partOf E 0) (partOf R 0) X p oX hX hs' (fun g a' G' w' ra' hp' hf' ⟨f',e,hQ⟩=>?_) ops.size _ _ ps G _ ra hp0 ⟨hf.size,hf.defers,hf.slots⟩ H
  subst e
  exact ⟨.normal,f',a'.flatten ++ t,G',hQ,trivial,⟨hf'.size,hf'.defers,hf'.slots⟩,hp'.permL hp.perm⟩⟩⟩
end
end Go.Proofs.Hk

set_option linter.unusedVariables false
namespace Go.Proofs.Hk
noncomputable section
open Go
/-- An operation whose guard does not hold is passed by. -/
theorem DN.dead {c:Cx} {n:Nat} {all:Array Oper} {t:HS} {E R:List (List Nat)} {Q:HExit→Fr→HS→Prop} {f f':Fr} {ps:List HS} {k:Nat} {l:List Nat} {o:Oper} (hk:all[k]? = some o) (h1:partOf E 0 k=none) (h2:partOf R 0 k=none) (hact:active all f o=some (.cond false))
  (hp:hput n o.dst (.cond false) (.v (.bool false)) f=some f') (h:DN c n all t E R Q l f' ps):DN c n all t E R Q (k::l) f ps:=by
 constructor
 simp only [textN,qOpN,hk,h1,h2]
 obtain ⟨g1,g2⟩:=hput_get hp
 exact ⟨(.cond false,.v (.bool false)),fun m=>⟨g2,fun G w ra hs hf=>⟨d2_want hact hf,fun hb=>absurd hb (by simp [tgB])⟩⟩,g1 ▸ h.out⟩
end
end Go.Proofs.Hk

set_option linter.unusedVariables false
set_option linter.unusedSimpArgs false
namespace Go.Proofs.Hk
open Go
noncomputable section
/-! The machine, reckoned. -/
inductive Rs where
 |out (why:Nat) (pos:String)
 |ok (e:HExit) (a:Fr) (s:HS) (k:Nat)
 |ret (x:HV) (s:HS) (k:Nat)
 |pan (x:HV) (s:HS) (k:Nat)
inductive Task where
 |code (n:Nat) (code:Code) (a:Fr)
 |call (f:FuncId) (xs:List HV)
/-- What is known of a function without looking at its text. -/
inductive LibR where
 |val (x:HV)
 |new (x:Nat→HV) (y:Nat→Res)
 |look (r:Nat) (k:Res→Option HV)
 |turn (r:Nat) (k:Res→Option Res)
 |st (g:HS→Option (HV × HS))
def newOp:Op→Bool
 |.alloc _=>true
 |.box _ _=>true
 |.makeSlice _ _ _=>true
 |.makeMap _ _=>true
 |.call ⟨.builtin .append,_,_⟩=>true
 |_=>false
def isNone {α:Type} (x:Option α):Bool:=
 match x with
 |some _=>false
 |none=>true
def consO (x:HV):Option (List HV)→Option (List HV)
 |some xs=>some (x::xs)
 |none=>none
def sures (a:Fr):List Operand→Option (List HV)
 |[]=>some []
 |x::xs=>match cev a x with
  |some (.sure,v)=>consO v (sures a xs)
  |_=>none
/-! Operations on rows of one's own, and functions compared with nil. -/
inductive RowC where
 |no
 |val (x:HV)
 |app0 (X:Nat→HV) (Y:Nat→Res)
 |app (r:Nat) (k:Res→Option ((Nat→HV) × (Nat→Res)))
 |look (r:Nat) (k:Res→Option HV)
 |turn (r:Nat) (k:Res→Option (HV × Res))
 |appL (r:Nat) (k:Res→Option ((Nat→HV) × (Nat→Res)))
/-! What is appended stands in a row of one's own. -/
def elemsA (sz:Nat):Nat→List HV→List HV
 |0,_=>[]
 |n+1,cs=>.agg (cs.take sz)::elemsA sz n (cs.drop sz)
def arrMore (d:TyD) (off n:Nat) (y:Res):Option (List HV):=
 match y with
 |.cells cs _=>match Nat.ble (off+n * d.size) cs.length with
  |true=>match d.isAgg with
   |true=>some (elemsA d.size n (cs.drop off))
   |false=>match Nat.beq d.size 1 with
    |true=>some ((cs.drop off).take n)
    |false=>none
  |false=>none
 |_=>none
def arrMade (d:TyD) (off n:Nat) (y:Res):Option ((Nat→HV) × (Nat→Res)):=
 match arrMore d off n y with
 |some ys=>forceL ys fun ys=>match Nat.beq ys.length n && Nat.ble (n * d.bytes) 140737488355328 with
  |true=>some (fun v=>.list (.own v 0) d.size ys,fun _=>.tok n)
  |false=>none
 |none=>none
/-- Has it no room? -/
def noRoom:HV→Bool
 |.v (.slice none 0 0)=>true
 |.arr _ _ 0 0 _=>true
 |.list .full _ []=>true
 |_=>false
def lenLe:HV→Bool
 |.v (.slice none 0 0)=>true
 |.list _ _ _=>true
 |.arr _ _ l c _=>Nat.ble l c
 |_=>false
def rElem (c:Cx) (t:TypeId):Option (TypeId × TyD):=
 match c.ty t with
 |some ⟨_,_,_,_,.slice e⟩=>match c.ty e with
  |some d=>some (e,d)
  |none=>none
 |_=>none
def rowMade (e:TypeId) (d:TyD) (n:Nat) (cs:List HV) (ys:List HV):Option ((Nat→HV) × (Nat→Res)):=
 forceN (n+ys.length) fun m=>match Nat.ble (m * d.bytes) 140737488355328 with
  |true=>forceL (appR cs (ys.flatMap HV.cells)) fun zs=>some (fun v=>.row v m d.size,fun _=>.row zs d.size e)
  |false=>none
def rowOn (e:TypeId) (d:TyD) (n:Nat) (ys:List HV) (y:Res):Option ((Nat→HV) × (Nat→Res)):=
 match y with
 |.row cs sz t=>match Nat.beq sz d.size && Nat.beq t e && Nat.ble (n * d.size) (lenR cs) with
  |true=>forceN (n * d.size) fun k=>rowMade e d n (takeR k cs) ys
  |false=>none
 |_=>none
def rowNew (e:TypeId) (d:TyD) (ys:List HV):RowC:=
 match rowMade e d 0 [] ys with
 |some (X,Y)=>.app0 X Y
 |none=>.no
def leafZ:HV→Bool
 |.v (.int _ (.ofNat 0))=>true
 |.v (.string ⟨⟨[]⟩⟩)=>true
 |.v (.slice none 0 0)=>true
 |.v (.bool false)=>true
 |_=>false
def allZ:List HV→Bool
 |[]=>true
 |x::l=>match leafZ x with
  |true=>allZ l
  |false=>false
def firstZ:HV→Bool
 |.list _ _ (.agg l::_)=>allZ l
 |_=>false
/-- Is a new row to be one of one's own? -/
def rowsOn (c:Cx) (t:TypeId) (y:HV):Bool:=
 match c.rows t with
 |true=>true
 |false=>match c.rowsZ t with
  |true=>firstZ y
  |false=>false
def rowApp (c:Cx) (t u:TypeId) (x y:HV):RowC:=
 match x with
 |.row r n sz=>match rElem c t with
  |none=>.no
  |some (e,d)=>match isRow c u && Nat.blt 0 d.bytes && Nat.blt 0 d.size && Nat.beq sz d.size with
   |false=>.no
   |true=>match hmore d y with
    |none=>.no
    |some []=>.val x
    |some (z::zs)=>.app r (rowOn e d n (z::zs))
 |.v (.slice none 0 0)=>match rowsOn c t y with
  |false=>.no
  |true=>match rElem c t with
   |none=>.no
   |some (e,d)=>match isRow c u && Nat.blt 0 d.bytes && Nat.blt 0 d.size with
    |false=>.no
    |true=>match hmore d y with
     |some (z::zs)=>rowNew e d (z::zs)
     |_=>.no
 |_=>.no
def rowLen (c:Cx) (t:TypeId) (x:HV):RowC:=
 match x with
 |.row _ n _=>match c.ty t with
  |some ⟨_,_,_,_,.slice _⟩=>.val (.v (.int .i64 (n:Int)))
  |_=>.no
 |_=>.no
def eqlB:BinOp→Option Bool
 |.eql=>some true
 |.neq=>some false
 |_=>none
def nilCmp (c:Cx) (t:TypeId) (x y:HV):Option Bool:=
 match c.ty t with
 |some ⟨_,_,_,_,.func⟩=>match y with
  |.v .nilFunc=>match x with
   |.fn _ _ _=>some false
   |.v .nilFunc=>some true
   |_=>none
  |_=>none
 |some ⟨_,_,_,_,.slice _⟩=>match y with
  |.v (.slice none 0 0)=>match x with
   |.list _ _ (_::_)=>some false
   |.row _ _ _=>some false
   |.v (.slice none 0 0)=>some true
   |_=>none
  |_=>none
 |some ⟨_,_,_,_,.ptr _⟩=>match y with
  |.v (.pointer none)=>match x with
   |.ptr _ _=>some false
   |.v (.pointer none)=>some true
   |_=>none
  |_=>none
 |_=>none
def funNil (c:Cx) (op:BinOp) (t:TypeId) (x y:HV):RowC:=
 match nilCmp c t x y with
 |some b=>match eqlB op with
  |some g=>.val (.v (.bool (match g with|true=>b|false=>!b)))
  |none=>.no
 |none=>.no
def arrApp (c:Cx) (t u:TypeId) (x:HV) (r off n:Nat):RowC:=
 match rElem c t with
 |none=>.no
 |some (e,d)=>match isRow c u && Nat.blt 0 d.bytes && Nat.blt 0 d.size with
  |false=>.no
  |true=>match n with
   |0=>match lenLe x with
    |true=>.val x
    |false=>.no
   |n+1=>match noRoom x with
    |true=>.appL r (arrMade d off (n+1))
    |false=>.no
def rowApps (c:Cx) (t u:TypeId) (x y:HV):RowC:=
 match y with
 |.arr r off n _ _=>arrApp c t u x r off n
 |_=>rowApp c t u x y
def rowCall (c:Cx) (b:Builtin) (ts:List TypeId) (xs:List HV):RowC:=
 match b,ts,xs with
 |.append,[t,u],[x,y]=>rowApps c t u x y
 |.len,[t],[x]=>rowLen c t x
 |_,_,_=>.no
def isRowAt (s:HS) (r:Nat):Bool:=
 match sget s r with
 |some (.row _ _ _)=>true
 |_=>false
def rowGet (d:TyD) (off:Nat) (y:Res):Option HV:=
 match y with
 |.row cs _ _=>match d.isAgg with
  |true=>match Nat.ble (off+d.size) (lenR cs) with
   |true=>forceL (takeR d.size (dropR off cs)) fun l=>some (.agg l)
   |false=>none
  |false=>match nthR cs off with
   |some x=>match kdOne x with
    |true=>some x
    |false=>none
   |none=>none
 |_=>none
def rowPut (d:TyD) (off:Nat) (x:HV) (y:Res):Option (HV × Res):=
 match y with
 |.row cs sz t=>match kdOk x && Nat.beq x.cells.length d.size && Nat.ble (off+d.size) (lenR cs) with
  |true=>forceL (appR (takeR off cs) (appR x.cells (dropR (off+d.size) cs))) fun l=>some (.tup [],.row l sz t)
  |false=>none
 |_=>none
def rowLoad (c:Cx) (isR:Nat→Bool) (t:TypeId) (p:HV):RowC:=
 match p with
 |.ptr r off=>match isR r with
  |true=>match c.ty t with
   |some d=>.look r (rowGet d off)
   |none=>.no
  |false=>.no
 |_=>.no
def rowStore (c:Cx) (isR:Nat→Bool) (t:TypeId) (p x:HV):RowC:=
 match p with
 |.ptr r off=>match isR r with
  |true=>match c.ty t with
   |some d=>.turn r (rowPut d off x)
   |none=>.no
  |false=>.no
 |_=>.no
def rowAddr (c:Cx) (t:TypeId) (x i:HV):RowC:=
 match x with
 |.row r n sz=>match rElem c t with
  |some (_,d)=>match i with
   |.v (.int _ (.ofNat m))=>match Nat.blt m n && Nat.beq sz d.size with
    |true=>forceN (m * sz) fun o=>.val (.ptr r o)
    |false=>.no
   |_=>.no
  |none=>.no
 |_=>.no
def rowOp (c:Cx) (isR:Nat→Bool) (o:Op) (a:Fr):RowC:=
 match o with
 |.call ⟨.builtin b,xs,ts⟩=>match sures a xs.toList with
  |some vs=>rowCall c b ts.toList vs
  |none=>.no
 |.binOp op t x y _=>match cev a y with
  |some (.sure,y)=>match cev a x with
   |some (.sure,x)=>funNil c op t x y
   |_=>.no
  |_=>.no
 |.load t p=>match cev a p with
  |some (.sure,p)=>rowLoad c isR t p
  |_=>.no
 |.store t p x=>match cev a p with
  |some (.sure,p)=>match cev a x with
   |some (.sure,x)=>rowStore c isR t p x
   |_=>.no
  |_=>.no
 |.indexAddr t x i=>match cev a x with
  |some (.sure,x)=>match cev a i with
   |some (.sure,i)=>rowAddr c t x i
   |_=>.no
  |_=>.no
 |_=>.no
def yldOf (o:Op) (a:Fr):Option (Nat × List HV):=
 match o with
 |.call ⟨.value f,xs,_⟩=>match cev a f with
  |some (.sure,.yld r)=>match sures a xs.toList with
   |some vs=>some (r,vs)
   |none=>none
  |_=>none
 |_=>none
def serase (s:HS) (r:Nat):HS:=List.rec [] (fun e s ih=>match Nat.beq e.1 r with|true=>s|false=>e::ih) s
theorem serase_cons (q:Nat) (x:Res) (s:HS) (r:Nat):serase ((q,x)::s) r=match Nat.beq q r with|true=>s|false=>(q,x)::serase s r:=rfl
def putN (pos:String) (g:Tag) (x:HV) (a:Fr) (n:Nat) (k:Fr→Rs):Rs:=k a
def putS (d:Tmp) (pos:String) (g:Tag) (x:HV) (a:Fr) (n:Nat) (k:Fr→Rs):Rs:=Bool.rec (.out 2 pos) (k ((d,g,x)::a)) (Nat.ble (Nat.succ d) n)
def put (n:Nat) (o:Oper) (a:Fr) (g:Tag) (x:HV) (k:Fr→Rs):Rs:=
 Option.rec (motive:=fun _=>String→Tag→HV→Fr→Nat→(Fr→Rs)→Rs) putN putS o.dst o.pos g x a n k
theorem put_eq (n:Nat) (o:Oper) (a:Fr) (g:Tag) (x:HV) (k:Fr→Rs):put n o a g x k=match hput n o.dst g x a with|some a'=>k a'|none=>.out 2 o.pos:=by
 unfold put hput
 cases o.dst with
 |none=>rfl
 |some d=>
  show (Bool.rec _ _ (Nat.blt d n):Rs)=_
  simp only
  generalize Nat.blt d n=b
  cases b<;>rfl
section
variable (n:Nat) (o:Oper) (a:Fr) (s:HS) (i:Nat)
def updB (r r':Nat) (y:Res) (x:HV) (k:Fr→HS→Rs):Rs:=Bool.rec (.out 5 o.pos) (put n o a .sure x fun a'=>forceL (sset s r y) fun s=>k a' s) (Nat.beq r' r)
def opUpd (r:Nat) (k:Fr→HS→Rs) (q:OpC):Rs:=
 match q with
 |.val x=>put n o a .sure x fun a'=>k a' s
 |.same x=>put n o a .sure x fun a'=>k a' s
 |.upd x r' y=>updB n o a s r r' y x k
 |_=>.out 6 o.pos
def opLook (r:Nat) (q:Res→OpC) (k:Fr→HS→Rs):Rs:=
 match sget s r with
 |some y=>opUpd n o a s r k (q y)
 |none=>.out 7 o.pos
end
section
variable (k:Fr→HS→Nat→Rs) (call:FuncId→List HV→HS→Nat→Rs) (n K:Nat) (o:Oper) (a:Fr) (s:HS) (i:Nat)
def oBad:Rs:=.out 9 o.pos
def oVal (x:HV) (k:Fr→HS→Nat→Rs) (call:FuncId→List HV→HS→Nat→Rs) (n K:Nat) (o:Oper) (a:Fr) (s:HS) (i:Nat):Rs:=put n o a .sure x fun a'=>k a' s i
def opCall (n:Nat) (o:Oper) (a:Fr) (k:Fr→HS→Nat→Rs) (r:Rs):Rs:=
 match r with
 |.ret x s i=>put n o a .sure x fun a'=>k a' s i
 |.pan x s i=>.ok (.pan x) a s i
 |.out w p=>.out w p
 |.ok _ _ _ _=>.out 4 o.pos
def oCall (f:FuncId) (xs:List HV) (k:Fr→HS→Nat→Rs) (call:FuncId→List HV→HS→Nat→Rs) (n K:Nat) (o:Oper) (a:Fr) (s:HS) (i:Nat):Rs:=opCall n o a k (call f xs s i)
def oPan (x:HV) (k:Fr→HS→Nat→Rs) (call:FuncId→List HV→HS→Nat→Rs) (n K:Nat) (o:Oper) (a:Fr) (s:HS) (i:Nat):Rs:=.ok (.pan x) a s i
def oUpd (_:HV) (_:Nat) (_:Res) (k:Fr→HS→Nat→Rs) (call:FuncId→List HV→HS→Nat→Rs) (n K:Nat) (o:Oper) (a:Fr) (s:HS) (i:Nat):Rs:=.out 8 o.pos
def oNew (X:Nat→HV) (Y:Nat→Res) (k:Fr→HS→Nat→Rs) (call:FuncId→List HV→HS→Nat→Rs) (n K:Nat) (o:Oper) (a:Fr) (s:HS) (i:Nat):Rs:=
 Bool.rec (.out 3 o.pos) (put n o a .sure (X i) fun a'=>forceN (Nat.succ i) fun i1=>k a' ((i,Y i)::s) i1) (Nat.ble (Nat.succ i) K && newOp o.op)
def oLook (r:Nat) (q:Res→OpC) (_:(Res→((Fr→HS→Nat→Rs)→(FuncId→List HV→HS→Nat→Rs)→Nat→Nat→Oper→Fr→HS→Nat→Rs))) (k:Fr→HS→Nat→Rs) (call:FuncId→List HV→HS→Nat→Rs) (n K:Nat) (o:Oper) (a:Fr) (s:HS) (i:Nat):Rs:=opLook n o a s r q fun a s=>k a s i
def opDo (q:OpC):Rs:=
 OpC.rec (motive:=fun _=>(Fr→HS→Nat→Rs)→(FuncId→List HV→HS→Nat→Rs)→Nat→Nat→Oper→Fr→HS→Nat→Rs)
  (fun _ _ _ _ o _ _ _=>oBad o) oVal oCall oPan oVal oUpd oNew oLook q k call n K o a s i
variable (cod:Nat→Code→Fr→HS→Nat→Rs)
/-- A round of a loop over a function. -/
def opYldEnd (r:Nat) (L:LoopR) (x:Rs):Rs:=
 match x with
 |.ok .normal _ s i=>put n o a .sure (.v (.bool true)) fun a'=>k a' ((r,.loop L)::s) i
 |.ok .ret _ s i=>put n o a .sure (.v (.bool false)) fun a'=>k a' ((r,.loop { L with pend:=some .ret})::s) i
 |.ok (.exit id) _ s i=>put n o a .sure (.v (.bool false)) fun a'=>k a' ((r,.loop { L with pend:=some (.exit id)})::s) i
 |.out w p=>.out w p
 |_=>.out 70 o.pos
def opYldBody (r:Nat) (L:LoopR) (x:Rs):Rs:=
 match x with
 |.ok .normal a2 s2 i2=>opYldEnd k n o a r L (cod L.n L.bdy a2 s2 i2)
 |.out w p=>.out w p
 |_=>.out 71 o.pos
def opYldGo (r:Nat) (vs:List HV) (L:LoopR):Rs:=
 match !L.busy && isNone L.pend && noDef L.asg && noDef L.bdy with
 |true=>match putPs L.n L.ps.toList vs L.a with
  |some a1=>opYldBody k n o a cod r L (cod L.n L.asg a1 (serase s r) i)
  |none=>.out 72 o.pos
 |false=>.out 73 o.pos
def opYld (r:Nat) (vs:List HV):Rs:=
 match sget s r with
 |some (.loop L)=>opYldGo k n o a s i cod r vs L
 |_=>.out 74 o.pos
def opAct0 (c:Cx):Rs:=
 match yldOf o.op a with
 |none=>opDo k call n K o a s i (cop c o.op a)
 |some (r,vs)=>opYld k n o a s i cod r vs
def opApp (X:Nat→HV) (Y:Nat→Res) (s:HS):Rs:=
 Bool.rec (.out 80 o.pos) (put n o a .sure (X i) fun a'=>forceN (Nat.succ (Nat.succ i)) fun i2=>k a' ((i,Y i)::s) i2) (Nat.ble (Nat.succ (Nat.succ i)) K)
def opAppOn (r:Nat) (q:Option ((Nat→HV) × (Nat→Res))):Rs:=
 match q with
 |some (X,Y)=>opApp k n K o a i X Y (serase s r)
 |none=>.out 81 o.pos
def opNew1 (X:Nat→HV) (Y:Nat→Res) (s:HS):Rs:=
 Bool.rec (.out 97 o.pos) (put n o a .sure (X i) fun a'=>forceN (Nat.succ i) fun i1=>k a' ((i,Y i)::s) i1) (Nat.ble (Nat.succ i) K)
def opAppL (q:Option ((Nat→HV) × (Nat→Res))):Rs:=
 match q with
 |some (X,Y)=>opNew1 k n K o a i X Y s
 |none=>.out 98 o.pos
def opTurn (r:Nat) (k:Fr→HS→Nat→Rs) (q:Option (HV × Res)):Rs:=
 match q with
 |some (x,z)=>put n o a .sure x fun a'=>forceL (sset s r z) fun s=>k a' s i
 |none=>.out 83 o.pos
def opSee (k:Fr→HS→Nat→Rs) (q:Option HV):Rs:=
 match q with
 |some x=>put n o a .sure x fun a'=>k a' s i
 |none=>.out 86 o.pos
def opAct (c:Cx):Rs:=
 match rowOp c (isRowAt s) o.op a with
 |.no=>opAct0 k call n K o a s i cod c
 |.val x=>put n o a .sure x fun a'=>k a' s i
 |.app0 X Y=>opApp k n K o a i X Y s
 |.app r q=>match sget s r with
  |some y=>opAppOn k n K o a s i r (q y)
  |none=>.out 82 o.pos
 |.turn r q=>match sget s r with
  |some y=>opTurn n o a s i r k (q y)
  |none=>.out 84 o.pos
 |.appL r q=>match sget s r with
  |some y=>opAppL k n K o a s i (q y)
  |none=>.out 99 o.pos
 |.look r q=>match sget s r with
  |some y=>opSee n o a s i k (q y)
  |none=>.out 85 o.pos
def opOn (c:Cx) (tg:Tag):Rs:=Bool.rec (put n o a (.cond false) (.v (.bool false)) fun a'=>k a' s i) (opAct k call n K o a s i cod c) (okTag tg)
def opTag (c:Cx) (tg:Option Tag):Rs:=
 match tg with
 |none=>.out 1 o.pos
 |some tg=>opOn k call n K o a s i cod c tg
end
def evOps (c:Cx) (n:Nat) (all:Array Oper) (K:Nat) (cod:Nat→Code→Fr→HS→Nat→Rs) (call:FuncId→List HV→HS→Nat→Rs) (l:List Oper):Fr→HS→Nat→Rs:=
 List.rec (fun a s i=>.ok .normal a s i) (fun o _ ih a s i=>opTag ih call n K o a s i cod c (active all a o)) l
/-! Names. -/
def tokN:Tok→List Nat
 |.own i _=>[i]
 |_=>[]
/-- The names that a value mentions; of a list only its first element is looked at. -/
def ments:Nat→HV→List Nat
 |0,_=>[]
 |d+1,x=>match x with
  |.v _=>[]
  |.agg l=>l.flatMap (ments d)
  |.tup l=>l.flatMap (ments d)
  |.list t _ l=>match l with
   |[]=>tokN t
   |x::_=>tokN t ++ ments d x
  |.ptr r _=>[r]
  |.cptr x=>ments d x
  |.fn _ fi ca=>fi.flatMap (ments d) ++ ca.flatMap (ments d)
  |.map r=>[r]
  |.arr r _ _ _ _=>[r]
  |.iface _ x=>ments d x
  |.yld r=>[r]
  |.row r _ _=>[r]
def resMents:Res→List Nat
 |.cells cs _=>cs.flatMap (ments 6)
 |.map es=>es.flatMap fun e=>ments 6 e.2
 |.loop L=>L.a.flatMap fun e=>ments 6 e.2.2
 |.row cs _ _=>cs.flatMap (ments 6)
 |_=>[]
def closStep (s:HS) (ih:List Nat→List Nat→List Nat) (r:Nat) (todo seen:List Nat):List Nat:=
 match memN r seen with
 |true=>ih todo seen
 |false=>match sget s r with
  |none=>ih todo seen
  |some y=>ih (resMents y ++ todo) (r::seen)
def clos (s:HS):Nat→List Nat→List Nat→List Nat
 |0,_,seen=>seen
 |_+1,[],seen=>seen
 |f+1,r::todo,seen=>closStep s (clos s f) r todo seen
def dropN (k0:Nat) (s:HS):HS:=List.rec [] (fun e _ ih=>match Nat.blt e.1 k0 with|true=>e::ih|false=>ih) s
theorem dropN_nil (k0:Nat):dropN k0 []=[]:=rfl
theorem dropN_cons (k0:Nat) (e:Nat × Res) (s:HS):dropN k0 (e::s)=match Nat.blt e.1 k0 with|true=>e::dropN k0 s|false=>dropN k0 s:=rfl
def anyGe (k0:Nat) (l:List Nat):Bool:=List.rec false (fun r _ ih=>match Nat.ble k0 r with|true=>true|false=>ih) l
/-- Does an elder object mention a younger one? -/
def elder (k0:Nat) (s:HS):Bool:=List.rec false (fun e _ ih=>match Nat.blt e.1 k0 with|true=>(match anyGe k0 (resMents e.2) with|true=>true|false=>ih)|false=>ih) s
/-- What stays of the state behind a call. -/
def gc (k0 k1:Nat) (x:HV) (s:HS):HS:=
 match Nat.beq k0 k1||anyGe k0 (ments 6 x)||elder k0 s with
 |true=>s
 |false=>dropN k0 s
mutual
/-- A value without a name. -/
def nameless:HV→Bool
 |.v _=>true
 |.agg l=>namelessL l
 |.tup l=>namelessL l
 |.list t _ l=>match t with
  |.own _ _=>false
  |_=>namelessL l
 |.ptr _ _=>false
 |.cptr x=>nameless x
 |.fn _ fi ca=>match namelessL fi with
  |true=>namelessL ca
  |false=>false
 |.map _=>false
 |.arr _ _ _ _ _=>false
 |.iface _ x=>nameless x
 |.yld _=>false
 |.row _ _ _=>false
def namelessL:List HV→Bool
 |[]=>true
 |x::l=>match nameless x with
  |true=>namelessL l
  |false=>false
end
mutual
/-- A value, of whose rows it is forgotten whose they are. -/
def strip:HV→HV
 |.v x=>.v x
 |.agg l=>.agg (stripL l)
 |.tup l=>.tup (stripL l)
 |.list t sz l=>match t with
  |.own _ _=>.list .no sz (stripL l)
  |.full=>.list .full sz (stripL l)
  |.no=>.list .no sz (stripL l)
 |.ptr r o=>.ptr r o
 |.cptr x=>.cptr (strip x)
 |.fn f fi ca=>.fn f fi ca
 |.map r=>.map r
 |.arr r off len cap sz=>.arr r off len cap sz
 |.iface t x=>.iface t (strip x)
 |.yld r=>.yld r
 |.row r n sz=>.row r n sz
def stripL:List HV→List HV
 |[]=>[]
 |x::l=>strip x::stripL l
end
/-! Regions whose order is drawn: A is what calls turn, B the other objects, each by itself. -/
inductive Cl where
 |q
 |rA
 |tA
 |rB (r:Nat)
 |tB (r:Nat)
inductive DR where
 |out (why:Nat) (pos:String)
 |ok (a:Fr) (A:HS) (kA:Nat) (B:HS) (kB:Nat) (cl:List (Nat × Cl))
def DR.cons (i:Nat) (cl:Cl):DR→DR
 |.out w p=>.out w p
 |.ok a A kA B kB l=>.ok a A kA B kB ((i,cl)::l)
section
variable (n:Nat) (o:Oper) (a:Fr)
def putD (g:Tag) (x:HV) (k:Fr→DR):DR:=
 match hput n o.dst g x a with
 |some a'=>k a'
 |none=>.out 12 o.pos
variable (i:Nat) (tg:Tag) (A:HS) (kA:Nat) (B:HS) (kB KB:Nat) (ih:Fr→HS→Nat→HS→Nat→DR)
def dLookB (r:Nat) (q:OpC):DR:=
 match q with
 |.val x=>putD n o a tg x fun a'=>DR.cons i (.rB r) (ih a' A kA B kB)
 |.upd x r' y=>match Nat.beq r' r with
  |true=>putD n o a tg x fun a'=>forceL (sset B r y) fun B=>DR.cons i (.tB r) (ih a' A kA B kB)
  |false=>.out 16 o.pos
 |_=>.out 17 o.pos
def dLookA (r:Nat) (q:OpC):DR:=
 match q with
 |.val x=>putD n o a tg x fun a'=>DR.cons i .rA (ih a' A kA B kB)
 |.upd x r' y=>match Nat.beq r' r with
  |true=>putD n o a tg x fun a'=>forceL (sset A r y) fun A=>DR.cons i .tA (ih a' A kA B kB)
  |false=>.out 16 o.pos
 |_=>.out 18 o.pos
def dLook (r:Nat) (q:Res→OpC):DR:=
 match sget B r with
 |some y=>dLookB n o a i tg A kA B kB ih r (q y)
 |none=>match sget A r with
  |some y=>dLookA n o a i tg A kA B kB ih r (q y)
  |none=>.out 19 o.pos
def dNew (X:Nat→HV) (Y:Nat→Res):DR:=
 match Nat.blt kB KB && newOp o.op && isNone (sget B kB) with
 |true=>putD n o a tg (X kB) fun a'=>forceN (Nat.succ kB) fun kB1=>DR.cons i (.tB kB) (ih a' A kA ((kB,Y kB)::B) kB1)
 |false=>.out 13 o.pos
def dNewA (KA:Nat) (X:Nat→HV) (Y:Nat→Res):DR:=
 match Nat.ble (Nat.succ kA) KA && newOp o.op with
 |true=>putD n o a tg (X kA) fun a'=>forceN (Nat.succ kA) fun kA1=>DR.cons i .tA (ih a' ((kA,Y kA)::A) kA1 B kB)
 |false=>.out 78 o.pos
def dPure (rest:DR) (r:Rs):DR:=
 match r with
 |.ret x _ _=>match nameless (strip x) with
  |true=>putD n o a tg (strip x) fun a'=>DR.cons i .q (ih a' A kA B kB)
  |false=>rest
 |.out w p=>.out w p
 |_=>.out 14 o.pos
def dTurn (r:Rs):DR:=
 match r with
 |.ret x A kA=>putD n o a tg x fun a'=>DR.cons i .tA (ih a' A kA B kB)
 |.out w p=>.out w p
 |_=>.out 15 o.pos
def dCall (call:FuncId→List HV→HS→Nat→Rs) (pure:FuncId→List HV→Rs) (f:FuncId) (xs:List HV):DR:=
 match namelessL xs with
 |true=>dPure n o a i tg A kA B kB ih (dTurn n o a i tg B kB ih (call f xs A kA)) (pure f xs)
 |false=>forceL (stripL xs) fun ys=>match namelessL ys with
  |true=>dPure n o a i tg A kA B kB ih (dTurn n o a i tg B kB ih (call f xs A kA)) (pure f ys)
  |false=>dTurn n o a i tg B kB ih (call f xs A kA)
def dDo (call:FuncId→List HV→HS→Nat→Rs) (pure:FuncId→List HV→Rs) (q:OpC):DR:=
 match q with
 |.val x=>putD n o a tg x fun a'=>DR.cons i .q (ih a' A kA B kB)
 |.same x=>putD n o a tg x fun a'=>DR.cons i .q (ih a' A kA B kB)
 |.new X Y=>dNew n o a i tg A kA B kB KB ih X Y
 |.call f xs=>dCall n o a i tg A kA B kB ih call pure f xs
 |.look r q=>dLook n o a i tg A kA B kB ih r q
 |.upd _ _ _=>.out 22 o.pos
 |.pan _=>.out 20 o.pos
 |.bad=>.out 21 o.pos
end
section
variable (n:Nat) (o:Oper) (a:Fr) (i:Nat) (tg:Tag) (A:HS) (kA:Nat) (B:HS) (kB:Nat) (ih:Fr→HS→Nat→HS→Nat→DR)
def dSeeB (r:Nat) (q:Option HV):DR:=
 match q with
 |some x=>putD n o a tg x fun a'=>DR.cons i (.rB r) (ih a' A kA B kB)
 |none=>.out 87 o.pos
def dSeeA (q:Option HV):DR:=
 match q with
 |some x=>putD n o a tg x fun a'=>DR.cons i .rA (ih a' A kA B kB)
 |none=>.out 88 o.pos
def dPutB (r:Nat) (q:Option (HV × Res)):DR:=
 match q with
 |some (x,z)=>putD n o a tg x fun a'=>forceL (sset B r z) fun B=>DR.cons i (.tB r) (ih a' A kA B kB)
 |none=>.out 89 o.pos
def dPutA (r:Nat) (q:Option (HV × Res)):DR:=
 match q with
 |some (x,z)=>putD n o a tg x fun a'=>forceL (sset A r z) fun A=>DR.cons i .tA (ih a' A kA B kB)
 |none=>.out 90 o.pos
def dAppGo (KA:Nat) (X:Nat→HV) (Y:Nat→Res) (A:HS):DR:=
 match Nat.ble (Nat.succ (Nat.succ kA)) KA with
 |true=>putD n o a tg (X kA) fun a'=>forceN (Nat.succ (Nat.succ kA)) fun kA2=>DR.cons i .tA (ih a' ((kA,Y kA)::A) kA2 B kB)
 |false=>.out 94 o.pos
def dAppOn (KA r:Nat) (q:Option ((Nat→HV) × (Nat→Res))):DR:=
 match q with
 |some (X,Y)=>dAppGo n o a i tg kA B kB ih KA X Y (serase A r)
 |none=>.out 95 o.pos
def dRow (KA:Nat) (q:RowC) (rest:DR):DR:=
 match q with
 |.no=>rest
 |.app0 X Y=>dAppGo n o a i tg kA B kB ih KA X Y A
 |.app r q=>match sget A r with
  |some y=>dAppOn n o a i tg A kA B kB ih KA r (q y)
  |none=>.out 96 o.pos
 |.val x=>putD n o a tg x fun a'=>DR.cons i .q (ih a' A kA B kB)
 |.look r q=>match sget B r with
  |some y=>dSeeB n o a i tg A kA B kB ih r (q y)
  |none=>match sget A r with
   |some y=>dSeeA n o a i tg A kA B kB ih (q y)
   |none=>.out 91 o.pos
 |.turn r q=>match sget B r with
  |some y=>dPutB n o a i tg A kA B kB ih r (q y)
  |none=>match sget A r with
   |some y=>dPutA n o a i tg A kA B kB ih r (q y)
   |none=>.out 92 o.pos
 |.appL _ _=>.out 79 o.pos
end
/-- Is what is made handed to a call of the region? -/
def objOp:Op→Bool
 |.alloc _=>true
 |.box _ _=>true
 |.makeMap _ _=>true
 |_=>false
def backTmps (l:List Oper) (acc:List Nat):List Nat:=List.rec acc (fun o _ ih=>match o.op with
 |.move (.tmp u)=>match o.dst with
  |some d=>match memN d ih with
   |true=>u::ih
   |false=>ih
  |none=>ih
 |_=>ih) l
def inCts (cts:List Nat) (o:Oper):Bool:=
 match objOp o.op with
 |true=>match o.dst with
  |some d=>memN d cts
  |none=>false
 |false=>false
def dDoA (cts:List Nat) (n:Nat) (o:Oper) (a:Fr) (i:Nat) (tg:Tag) (A:HS) (kA:Nat) (B:HS) (kB KA:Nat) (ih:Fr→HS→Nat→HS→Nat→DR) (q:OpC) (rest:DR):DR:=
 match inCts cts o with
 |true=>match q with
  |.new X Y=>dNewA n o a i tg A kA B kB ih KA X Y
  |_=>rest
 |false=>rest
def dTag (cts:List Nat) (c:Cx) (n KA KB:Nat) (call:FuncId→List HV→HS→Nat→Rs) (pure:FuncId→List HV→Rs) (o:Oper) (i:Nat) (ih:Fr→HS→Nat→HS→Nat→DR) (a:Fr) (A:HS) (kA:Nat) (B:HS) (kB:Nat) (tg:Option Tag):DR:=
 match tg with
 |none=>.out 11 o.pos
 |some tg=>match okTag tg with
  |false=>putD n o a (.cond false) (.v (.bool false)) fun a'=>DR.cons i .q (ih a' A kA B kB)
  |true=>dRow n o a i tg A kA B kB ih KA (rowOp c (fun r=>isRowAt B r||isRowAt A r) o.op a) (dDoA cts n o a i tg A kA B kB KA ih (cop c o.op a) (dDo n o a i tg A kA B kB KB ih call pure (cop c o.op a)))
def evD (cts:List Nat) (c:Cx) (n:Nat) (all:Array Oper) (KA KB:Nat) (call:FuncId→List HV→HS→Nat→Rs) (pure:FuncId→List HV→Rs) (l:List Oper):Nat→Fr→HS→Nat→HS→Nat→DR:=
 List.rec (fun _ a A kA B kB=>.ok a A kA B kB []) (fun o _ ih i a A kA B kB=>dTag cts c n KA KB call pure o i (ih (Nat.succ i)) a A kA B kB (active all a o)) l
/-- What the calls are handed, as far as it is known ahead. -/
def tmpsOf (x:Operand):List Nat:=
 match x with
 |.tmp t=>[t]
 |_=>[]
def isCall:Op→Bool
 |.call ⟨.value _,_,_⟩=>true
 |_=>false
def putP (n:Nat) (o:Oper) (a:Fr) (x:HV):Fr:=
 match hput n o.dst .sure x a with
 |some a'=>a'
 |none=>a
def preVal (n:Nat) (o:Oper) (a:Fr):OpC→Fr
 |.val x=>putP n o a x
 |_=>a
def preOp (n:Nat) (o:Oper) (a:Fr) (s:HS) (q:OpC):Fr:=
 match q with
 |.val x=>putP n o a x
 |.look r q=>match sget s r with
  |some y=>preVal n o a (q y)
  |none=>a
 |_=>a
def preSee (n:Nat) (o:Oper) (a:Fr) (q:Option HV):Fr:=
 match q with
 |some x=>putP n o a x
 |none=>a
def preRow (n:Nat) (o:Oper) (a:Fr) (s:HS) (q:RowC) (rest:Fr):Fr:=
 match q with
 |.no=>rest
 |.val x=>putP n o a x
 |.look r q=>match sget s r with
  |some y=>preSee n o a (q y)
  |none=>a
 |_=>a
def preTag (c:Cx) (n:Nat) (o:Oper) (a:Fr) (s:HS) (tg:Option Tag):Fr:=
 match tg with
 |some tg=>match okTag tg with
  |true=>preRow n o a s (rowOp c (isRowAt s) o.op a) (preOp n o a s (cop c o.op a))
  |false=>a
 |none=>a
def pre (c:Cx) (n:Nat) (all:Array Oper) (s:HS) (l:List Oper):Fr→Fr:=List.rec (fun a=>a) (fun o _ ih a=>ih (preTag c n o a s (active all a o))) l
def callTmps (l:List Oper):List Nat:=l.flatMap fun o=>match isCall o.op with
 |true=>o.op.operands.toList.flatMap tmpsOf
 |false=>[]
def tmpVals (a:Fr) (l:List Nat):List Nat:=l.flatMap fun t=>match fget a t with
 |some (_,x)=>ments 6 x
 |none=>[]
def isApp:Op→Bool
 |.call ⟨.builtin .append,_,_⟩=>true
 |_=>false
def appTmps (l:List Oper):List Nat:=l.flatMap fun o=>match isApp o.op with
 |true=>o.op.operands.toList.flatMap tmpsOf
 |false=>[]
def rowMent (x:HV):List Nat:=
 match x with
 |.row r _ _=>[r]
 |_=>[]
def tmpRows (a:Fr) (l:List Nat):List Nat:=l.flatMap fun t=>match fget a t with
 |some (_,x)=>rowMent x
 |none=>[]
def rootsOf (a:Fr) (l m:List Nat):List Nat:=tmpVals a l ++ tmpRows a m
def roots (c:Cx) (n:Nat) (ops:Array Oper) (a:Fr) (s:HS):List Nat:=
 match callTmps ops.toList with
 |[]=>match appTmps ops.toList with
  |[]=>[]
  |m=>rootsOf (pre c n ops s ops.toList a) [] m
 |l=>rootsOf (pre c n ops s ops.toList a) l (appTmps ops.toList)
def splitA (seen:List Nat) (s:HS):HS:=List.rec [] (fun e _ ih=>match memN e.1 seen with|true=>e::ih|false=>ih) s
theorem splitA_nil (seen:List Nat):splitA seen []=[]:=rfl
theorem splitA_cons (seen:List Nat) (e:Nat × Res) (s:HS):splitA seen (e::s)=match memN e.1 seen with|true=>e::splitA seen s|false=>splitA seen s:=rfl
def splitB (seen:List Nat) (s:HS):HS:=List.rec [] (fun e _ ih=>match memN e.1 seen with|true=>ih|false=>e::ih) s
theorem splitB_nil (seen:List Nat):splitB seen []=[]:=rfl
theorem splitB_cons (seen:List Nat) (e:Nat × Res) (s:HS):splitB seen (e::s)=match memN e.1 seen with|true=>splitB seen s|false=>e::splitB seen s:=rfl
/-- The objects that are touched, in order. -/
def touch (acc:List Nat) (r:Nat):List Nat:=
 match memN r acc with
 |true=>acc
 |false=>acc ++ [r]
def touchC (x:Cl) (ih:List Nat→List Nat) (acc:List Nat):List Nat:=Cl.rec (ih acc) (ih acc) (ih acc) (fun r=>ih (touch acc r)) (fun r=>ih (touch acc r)) x
def touched (l:List (Nat × Cl)) (acc:List Nat):List Nat:=List.rec (motive:=fun _=>List Nat→List Nat) (fun acc=>acc) (fun e _ ih acc=>touchC e.2 ih acc) l acc
def selE (p:Cl→Bool) (l:List (Nat × Cl)):List Nat:=List.rec [] (fun e _ ih=>Bool.rec ih (e.1::ih) (p e.2)) l
def isTA (x:Cl):Bool:=Cl.rec false false true (fun _=>false) (fun _=>false) x
def isRA (x:Cl):Bool:=Cl.rec false true false (fun _=>false) (fun _=>false) x
def isTB (r:Nat) (x:Cl):Bool:=Cl.rec false false false (fun _=>false) (fun q=>Nat.beq q r) x
def isRB (r:Nat) (x:Cl):Bool:=Cl.rec false false false (fun q=>Nat.beq q r) (fun _=>false) x
def EOf (cl:List (Nat × Cl)) (T:List Nat):List (List Nat):=selE isTA cl::T.map fun r=>selE (isTB r) cl
def ROf (cl:List (Nat × Cl)) (T:List Nat):List (List Nat):=selE isRA cl::T.map fun r=>selE (isRB r) cl
def forceLL {β:Sort _} (l:List (List Nat)) (k:List (List Nat)→β):β:=List.rec (motive:=fun _=>(List (List Nat)→β)→β) (fun k=>k []) (fun l _ ih k=>forceL l fun l=>ih fun ls=>k (l::ls)) l k
theorem forceLL_eq {β:Sort _} : ∀ (l:List (List Nat)) (k:List (List Nat)→β),forceLL l k=k l
 |[],_=>rfl
 |l::ls,k=>(forceL_eq l _).trans (forceLL_eq ls (fun ls=>k (l::ls)))
def upto:Nat→Nat→List Nat
 |0,_=>[]
 |n+1,i=>i::upto n (Nat.succ i)
def drawOk (ops:Array Oper) (E R:List (List Nat)):Bool:=lexW ops (partOf E 0) (partOf R 0) (upto ops.size 0) (Array.replicate ops.size false)
def single (B:HS) (r:Nat):HS:=
 match sget B r with
 |some y=>[(r,y)]
 |none=>[(r,.void)]
def single' (B:HS) (r:Nat):HS:=
 match sget B r with
 |some y=>[(r,y)]
 |none=>[]
def nodupN:List Nat→Bool
 |[]=>true
 |r::l=>!memN r l && nodupN l
/-- Each object that is touched was there, or is new. -/
def inB (B:HS) (k1 k2:Nat) (l:List Nat):Bool:=List.rec true (fun r _ ih=>(!isNone (sget B r)||(Nat.ble k1 r && Nat.blt r k2)) && ih) l
theorem inB_cons (B:HS) (k1 k2 r:Nat) (l:List Nat):inB B k1 k2 (r::l)=((!isNone (sget B r)||(Nat.ble k1 r && Nat.blt r k2)) && inB B k1 k2 l):=rfl
def noneIn (k1 k2:Nat) (l:List Nat):Bool:=List.rec true (fun r _ ih=>!(Nat.ble k1 r && Nat.blt r k2) && ih) l
theorem noneIn_cons (k1 k2 r:Nat) (l:List Nat):noneIn k1 k2 (r::l)=(!(Nat.ble k1 r && Nat.blt r k2) && noneIn k1 k2 l):=rfl
/-- Where an operation's class stands in the lists. -/
def place:List Nat→Nat→Nat→Option Nat
 |[],_,_=>none
 |q::T,r,i=>match Nat.beq q r with
  |true=>some i
  |false=>place T r (Nat.succ i)
def isSome (x:Option Nat) (p:Nat):Bool:=
 match x with
 |some q=>Nat.beq q p
 |none=>false
def agreeC (E R:List (List Nat)) (T:List Nat) (i:Nat):Cl→Bool
 |.q=>isNone (partOf E 0 i) && isNone (partOf R 0 i)
 |.tA=>isSome (partOf E 0 i) 0
 |.rA=>isNone (partOf E 0 i) && isSome (partOf R 0 i) 0
 |.tB r=>match place T r 1 with
  |some p=>isSome (partOf E 0 i) p
  |none=>false
 |.rB r=>match place T r 1 with
  |some p=>isNone (partOf E 0 i) && isSome (partOf R 0 i) p
  |none=>false
def agree (E R:List (List Nat)) (T:List Nat) (l:List (Nat × Cl)):Bool:=List.rec true (fun e _ ih=>agreeC E R T e.1 e.2 && ih) l
theorem agree_is (E R:List (List Nat)) (T:List Nat) (e:Nat × Cl) (l:List (Nat × Cl)):agree E R T (e::l)=(agreeC E R T e.1 e.2 && agree E R T l):=rfl
def posOf (ops:Array Oper):String:=
 match ops.toList with
 |o::_=>o.pos
 |[]=> ""
/-- The end of such a region. -/
def evDraw3 (ops:Array Oper) (k k1 k2:Nat) (B:HS) (a':Fr) (A':HS) (kA:Nat) (B':HS) (cl:List (Nat × Cl)) (T:List Nat) (E R:List (List Nat)):Rs:=
 match drawOk ops E R && agree E R T cl && nodupN T && inB B k1 k2 T with
 |false=>.out (match drawOk ops E R with|false=>32|true=>match agree E R T cl with|false=>33|true=>34) (posOf ops)
 |true=>forceL (A' ++ (T.flatMap (single' B') ++ splitB T B)) fun s'=>match Nat.beq kA k && noneIn k1 k2 T with
  |true=>.ok .normal a' s' k
  |false=>.ok .normal a' s' k2
def evDraw2 (ops:Array Oper) (k k1 k2:Nat) (B:HS) (r:DR):Rs:=
 match r with
 |.out w p=>.out w p
 |.ok a' A' kA B' kB cl=>forceL cl fun cl=>forceL (touched cl []) fun T=>forceLL (EOf cl T) fun E=>forceLL (ROf cl T) fun R=>evDraw3 ops k k1 k2 B a' A' kA B' cl T E R
def evDraw1 (c:Cx) (n:Nat) (ops:Array Oper) (call:FuncId→List HV→HS→Nat→Rs) (pure:FuncId→List HV→Rs) (a:Fr) (s:HS) (k k1 k2:Nat):Rs:=
 forceL (clos s 2000 (roots c n ops a s) []) fun seen=>
 forceL (backTmps ops.toList (callTmps ops.toList)) fun cts=>forceL (splitA seen s) fun A=>forceL (splitB seen s) fun B=>evDraw2 ops k k1 k2 B (evD cts c n ops k1 k2 call pure ops.toList 0 a A k B k1)
def evDraw (c:Cx) (n:Nat) (ops:Array Oper) (call:FuncId→List HV→HS→Nat→Nat→Nat→Rs) (pure:FuncId→List HV→Rs) (a:Fr) (s:HS) (k K d:Nat):Rs:=
 match d with
 |0=>.out 30 ""
 |d+1=>forceN (k+2 ^ (24 * d)) fun k1=>forceN (k1+2 ^ (24 * d)) fun k2=>match Nat.ble k2 K with
  |false=>.out 31 ""
  |true=>evDraw1 c n ops (fun f xs s k=>call f xs s k k1 d) pure a s k k1 k2
/-- At a round's end: the frame that was there ahead, as it is now. -/
def refresh:Fr→Fr→Fr
 |[],_=>[]
 |(t,_,_)::a,b=>match fget b t with
  |some (g,x)=>(t,g,x)::refresh a b
  |none=>refresh a b
/-- What a function's results are. -/
def cellIs (s:HS) (q:OpC) (k:HV→Option (List HV)):Option (List HV):=
 match q with
 |.look r q=>match sget s r with
  |some y=>match q y with
   |.val x=>k x
   |_=>none
  |none=>none
 |_=>none
def evRes (c:Cx) (a:Fr) (s:HS):List ResultVar→Option (List HV)
 |[]=>some []
 |.tmp t::l=>match fget a t with
  |some (.sure,x)=>consO x (evRes c a s l)
  |_=>none
 |.cell p t::l=>match fget a p with
  |some (.sure,.ptr r off)=>cellIs s (cload c t (.ptr r off)) fun y=>consO y (evRes c a s l)
  |_=>none
/-- Code without loops over functions. -/
def noRng:Code→Bool
 |.seq x y=>noRng x && noRng y
 |.cond _ x y=>noRng x && noRng y
 |.block _ b=>noRng b
 |.loop b=>noRng b
 |.scope b=>noRng b
 |.rangeFunc _ _ _ _=>false
 |_=>true
/-! Functions that defer one call. -/
def isDefer:Op→Bool
 |.defer _=>true
 |_=>false
def hasDefer:Code→Bool
 |.region _ ops _=>ops.toList.any fun o=>isDefer o.op
 |.seq x y=>hasDefer x||hasDefer y
 |.block _ b=>hasDefer b
 |.scope b=>hasDefer b
 |_=>false
structure DefC where
 g:FuncId
 xs:List HV
 a:Fr
/-- A region that makes a closure and defers it. -/
def deferOf (c:Cx) (n:Nat) (a:Fr):Code→Option DefC
 |.region _ ops false=>match ops.toList with
  |[o1,o2]=>match o1.op with
   |.makeFunc (.func g) fi ca=>match sures a fi.toList,sures a ca.toList with
    |some fi,some ca=>match active ops a o1 with
     |some .sure=>match hput n o1.dst .sure (.fn (.func g) fi ca) a with
      |some a'=>match active ops a' o2 with
       |some .sure=>match o2.op with
        |.defer ⟨.value (.tmp t),as,_⟩=>match o2.dst,as.toList,c.fn g with
         |none,[],true=>match o1.dst with
          |some d=>match Nat.beq d t with
           |true=>some ⟨g,fi ++ ca,a'⟩
           |false=>none
          |none=>none
         |_,_,_=>none
        |_=>none
       |_=>none
      |none=>none
     |_=>none
    |_,_=>none
   |_=>none
  |_=>none
 |_=>none
/-- The deferred call: with what was panicked. -/
structure RecC where
 n:Nat
 X:Code
 a:Fr
 yes:Bool
def isSureO:Option (Tag × HV)→Bool
 |some (.sure,_)=>true
 |_=>false
def nilTest (a:Fr):Op→Bool
 |.binOp _ _ x y _=>isNilC y && isSureO (cev a x)
 |_=>false
def recOf (c:Cx) (g:FuncId) (xs:List HV) (v:HV):Option RecC:=
 match c.func g with
 |none=>none
 |some fn=>match fn.body with
  |some (.seq (.region _ ops false) (.cond (.tmp t) X .skip))=>match ops.toList,fn.results.toList,Nat.ble xs.length fn.ntmps with
   |[o1,o2],[],true=>match o1.op with
    |.call ⟨.builtin .recover,as,_⟩=>match as.toList,active ops (initFr xs 0) o1,hput fn.ntmps o1.dst .sure v (initFr xs 0) with
     |[],some .sure,some a1=>match active ops a1 o2 with
      |some .sure=>match cop c o2.op a1,nilTest a1 o2.op with
       |.val (.v (.bool b)),true=>match hput fn.ntmps o2.dst .sure (.v (.bool b)) a1 with
        |some a2=>match fget a2 t with
         |some (.sure,.v (.bool b'))=>match b,b' with
          |true,true=>some ⟨fn.ntmps,X,a2,true⟩
          |false,false=>some ⟨fn.ntmps,X,a2,false⟩
          |_,_=>none
         |_=>none
        |none=>none
       |_,_=>none
      |_=>none
     |_,_,_=>none
    |_=>none
   |_,_,_=>none
  |_=>none
def evFin (c:Cx) (fn:Func) (a:Fr) (s:HS) (k:Nat):Rs:=
 match evRes c a s fn.results.toList with
 |some xs=>.ret (tupOf xs) s k
 |none=>.out 40 ""
def evNoPan (c:Cx) (fn:Func) (g:FuncId) (xs:List HV) (a:Fr) (s:HS) (k:Nat):Rs:=
 match recOf c g xs (.v .nilIface) with
 |some ⟨_,_,_,false⟩=>evFin c fn a s k
 |_=>.out 41 ""
def evDidPan (c:Cx) (fn:Func) (rec:Task→HS→Nat→Rs) (g:FuncId) (xs:List HV) (v:HV) (a:Fr) (s:HS) (k:Nat):Rs:=
 match recOf c g xs v with
 |some ⟨m,X,a2,true⟩=>match noRng X with
  |false=>.out 48 ""
  |true=>match rec (.code m X a2) s k with
   |.ok .normal _ s k=>evFin c fn a s k
   |.out w p=>.out w p
   |_=>.out 42 ""
 |_=>.out 43 ""
def evDeferred (c:Cx) (fn:Func) (rec:Task→HS→Nat→Rs) (g:FuncId) (xs:List HV) (r:Rs):Rs:=
 match r with
 |.ok .normal a s k=>evNoPan c fn g xs a s k
 |.ok .ret a s k=>evNoPan c fn g xs a s k
 |.ok (.pan v) a s k=>evDidPan c fn rec g xs v a s k
 |.out w p=>.out w p
 |_=>.out 44 ""
def evAhead (c:Cx) (fn:Func) (k':Fr→HS→Nat→Rs) (r:Rs):Rs:=
 match r with
 |.ok .normal a s k=>k' a s k
 |.ok .ret a s k=>evFin c fn a s k
 |.ok (.pan v) a s k=>.pan v s k
 |.out w p=>.out w p
 |_=>.out 45 ""
def evDefer (c:Cx) (fn:Func) (rec:Task→HS→Nat→Rs):Code→Fr→HS→Nat→Rs
 |.seq x y,a,s,k=>match deferOf c fn.ntmps a x with
  |some ⟨g,xs,a'⟩=>evDeferred c fn rec g xs (rec (.code fn.ntmps y a') s k)
  |none=>evAhead c fn (evDefer c fn rec y) (rec (.code fn.ntmps x a) s k)
 |_,_,_,_=>.out 46 ""
section
variable (c:Cx) (rec:Task→HS→Nat→Nat→Nat→Rs) (K d:Nat)
def evSeq (n:Nat) (y:Code) (r:Rs):Rs:=
 match r with
 |.ok .normal a s k=>rec (.code n y a) s k K d
 |r=>r
def evCond (n:Nat) (x y:Code) (a:Fr) (s:HS) (k:Nat) (t:Option (Tag × HV)):Rs:=
 match t with
 |some (.sure,.v (.bool b))=>match b with
  |true=>rec (.code n x a) s k K d
  |false=>rec (.code n y a) s k K d
 |_=>.out 50 ""
def evBlock (id:Nat) (r:Rs):Rs:=
 match r with
 |.ok (.exit j) a s k=>match Nat.beq j id with
  |true=>.ok .normal a s k
  |false=>.ok (.exit j) a s k
 |r=>r
def evLoop (n:Nat) (b:Code) (a:Fr) (r:Rs):Rs:=
 match r with
 |.ok .normal a' s' k'=>forceL (refresh a a') fun a2=>rec (.code n (.loop b) a2) s' k' K d
 |r=>r
def evReg (n:Nat) (ops:Array Oper) (a:Fr) (s:HS) (k:Nat) (draw:Bool):Rs:=
 match draw with
 |false=>evOps c n ops K (fun n code a s k=>rec (.code n code a) s k K d) (fun f xs s k=>rec (.call f xs) s k K d) ops.toList a s k
 |true=>evDraw c n ops (fun f xs s k K d=>rec (.call f xs) s k K d) (fun f xs=>rec (.call f xs) [] 0 (2 ^ (24 * d)) d) a s k K d
end
section
variable (c:Cx) (rec:Task→HS→Nat→Nat→Nat→Rs) (K d:Nat)
/-- A loop over a function. -/
def evRangeFin (v:Nat) (a:Fr) (s:HS) (k:Nat) (L:LoopR):Rs:=
 match L.busy with
 |true=>.out 75 ""
 |false=>match L.pend with
  |none=>forceL (serase s v) fun s=>.ok .normal a s k
  |some .ret=>forceL (serase s v) fun s=>.ok .ret a s k
  |some (.exit id)=>forceL (serase s v) fun s=>.ok (.exit id) a s k
  |_=>.out 76 ""
def evRangeEnd (v:Nat) (a:Fr) (r:Rs):Rs:=
 match r with
 |.ret _ s k=>match sget s v with
  |some (.loop L)=>evRangeFin v a s k L
  |_=>.out 77 ""
 |.out w p=>.out w p
 |_=>.out 78 ""
def evRange (n:Nat) (ps:Array Tmp) (asg bdy:Code) (a:Fr) (s:HS) (k:Nat) (t:Option (Tag × HV)):Rs:=
 match t with
 |some (.sure,.fn (.func g) fi ca)=>match c.fn g && Nat.blt k K with
  |true=>forceN (Nat.succ k) fun k1=>forceL (fi ++ .yld k::ca) fun xs=>evRangeEnd k a (rec (.call g xs) ((k,.loop ⟨n,a,ps,asg,bdy,false,none⟩)::s) k1 K d)
  |false=>.out 79 ""
 |_=>.out 80 ""
end
abbrev CodeK:Type:=Cx→(Task→HS→Nat→Nat→Nat→Rs)→Nat→Nat→Nat→Fr→HS→Nat→Rs
def kcSkip:CodeK:=fun c rec K d n a s k=>.ok .normal a s k
def kcReg (_:Nat) (ops:Array Oper) (draw:Bool):CodeK:=fun c rec K d n a s k=>evReg c rec K d n ops a s k draw
def kcSeq (x y:Code) (_ _:CodeK):CodeK:=fun c rec K d n a s k=>evSeq rec K d n y (rec (.code n x a) s k K d)
def kcCond (t:Operand) (x y:Code) (_ _:CodeK):CodeK:=fun c rec K d n a s k=>evCond rec K d n x y a s k (cev a t)
def kcBlock (id:Nat) (b:Code) (_:CodeK):CodeK:=fun c rec K d n a s k=>evBlock id (rec (.code n b a) s k K d)
def kcLoop (b:Code) (_:CodeK):CodeK:=fun c rec K d n a s k=>evLoop rec K d n b a (rec (.code n b a) s k K d)
def kcRange (f:Operand) (ps:Array Tmp) (asg bdy:Code):CodeK:=fun c rec K d n a s k=>evRange c rec K d n ps asg bdy a s k (cev a f)
def kcExit (id:Nat):CodeK:=fun c rec K d n a s k=>.ok (.exit id) a s k
def kcScope (b:Code) (_:CodeK):CodeK:=fun c rec K d n a s k=>rec (.code n b a) s k K d
def kcRet:CodeK:=fun c rec K d n a s k=>.ok .ret a s k
def kcBad:CodeK:=fun c rec K d n a s k=>.out 51 ""
def codeR (code:Code):CodeK:=Code.rec (motive:=fun _=>CodeK) kcSkip kcReg kcSeq kcCond kcBlock kcLoop (fun f ps x y _ _=>kcRange f ps x y) kcExit kcScope (fun _=>kcSkip) (fun _=>kcBad) kcRet (fun _=>kcBad) code
section
variable (c:Cx) (rec:Task→HS→Nat→Nat→Nat→Rs) (K d:Nat)
def evCode (n:Nat) (code:Code) (a:Fr) (s:HS) (k:Nat):Rs:=codeR code c rec K d n a s k
def evRet (k0:Nat) (r:Rs):Rs:=
 match r with
 |.ret x s k=>forceL (gc k0 k x s) fun s=>.ret x s k
 |r=>r
def evBody (fn:Func) (xs:List HV) (s:HS) (k:Nat) (code:Code) (b:Bool):Rs:=
 match b with
 |true=>match noRng code with
  |true=>evDefer c fn (fun t s k=>rec t s k K d) code (initFr xs 0) s k
  |false=>.out 47 fn.name
 |false=>evAhead c fn (fun a s k=>evFin c fn a s k) (rec (.code fn.ntmps code (initFr xs 0)) s k K d)
def evFn (fn:Func) (xs:List HV) (s:HS) (k:Nat):Rs:=
 match fn.body with
 |none=>.out 61 fn.name
 |some code=>match Nat.ble xs.length fn.ntmps with
  |false=>.out 62 fn.name
  |true=>evRet k (evBody c rec K d fn xs s k code (hasDefer code))
def evCall (lib:FuncId→List HV→Option LibR) (f:FuncId) (xs:List HV) (s:HS) (k:Nat):Rs:=
 match lib f xs with
 |some (.val x)=>.ret x s k
 |some (.new X Y)=>match Nat.blt k K with
  |true=>forceN (Nat.succ k) fun k1=>.ret (X k) ((k,Y k)::s) k1
  |false=>.out 64 ""
 |some (.look r q)=>match sget s r with
  |some y=>match q y with
   |some x=>.ret x s k
   |none=>.out 65 ""
  |none=>.out 66 ""
 |some (.turn r q)=>match sget s r with
  |some y=>match q y with
   |some z=>forceL (sset s r z) fun s=>.ret (.tup []) s k
   |none=>.out 67 ""
  |none=>.out 68 ""
 |some (.st g)=>match g s with
  |some (x,s1)=>forceL s1 fun s1=>.ret x s1 k
  |none=>.out 69 ""
 |none=>match c.func f with
  |none=>.out 60 ""
  |some fn=>evFn c rec K d fn xs s k
end
def tCode (n:Nat) (code:Code) (a:Fr) (c:Cx) (lib:FuncId→List HV→Option LibR) (rec:Task→HS→Nat→Nat→Nat→Rs) (s:HS) (k K d:Nat):Rs:=codeR code c rec K d n a s k
def tCall (f:FuncId) (xs:List HV) (c:Cx) (lib:FuncId→List HV→Option LibR) (rec:Task→HS→Nat→Nat→Nat→Rs) (s:HS) (k K d:Nat):Rs:=evCall c rec K d lib f xs s k
def evStep (c:Cx) (lib:FuncId→List HV→Option LibR) (rec:Task→HS→Nat→Nat→Nat→Rs) (t:Task) (s:HS) (k K d:Nat):Rs:=
 Task.rec (motive:=fun _=>Cx→(FuncId→List HV→Option LibR)→(Task→HS→Nat→Nat→Nat→Rs)→HS→Nat→Nat→Nat→Rs) tCode tCall t c lib rec s k K d
/-- The machine, so many steps deep. -/
def run (c:Cx) (lib:FuncId→List HV→Option LibR) (fuel:Nat):Task→HS→Nat→Nat→Nat→Rs:=
 Nat.rec (fun _ _ _ _ _=>.out 99 "") (fun _ ih=>evStep c lib ih) fuel
end
end Go.Proofs.Hk

set_option linter.unusedVariables false
set_option linter.unusedSimpArgs false
namespace Go.Proofs.Hk
open Go
/-! What is new gets a name that was kept free. -/
theorem okTag_rel {G:Ghost} {g:Tag} {x:HV} {u:Value} (h:tagRel G g x u) (hg:okTag g=true):rel G x u:=by
 cases g with
 |sure=>exact h
 |cond b=>exact h.1 hg
theorem carg_new {a:Fr} {x:Operand} {k:HV→OpC} {X:Nat→HV} {Y:Nat→Res} (h:carg a x k = .new X Y) {G:Ghost} {n:Nat} {ra:Act} (hf:FRel G n a ra):∃ v,rel G v (ra.eval x)∧k v = .new X Y:=by
 unfold carg at h
 rw [←cev_eq] at h
 cases e:ev a x with
 |none=>rw [e] at h;cases h
 |some p=>
  obtain ⟨g,v⟩:=p
  rw [e] at h
  have h:(Bool.rec .bad (k v) (okTag g):OpC) = .new X Y:=h
  cases hg:okTag g with
  |false=>rw [hg] at h;cases h
  |true=>rw [hg] at h;exact ⟨v,okTag_rel (ev_ok hf e) hg,h⟩
theorem cargsM_new {a:Fr} {G:Ghost} {n:Nat} {ra:Act} (hf:FRel G n a ra) {X:Nat→HV} {Y:Nat→Res} : ∀ {xs:List Operand} {k:List HV→OpC},cargsM a xs k = .new X Y→∃ vs,relVs G vs (xs.map ra.eval)∧k vs = .new X Y
 |[],k,h=>⟨[],by simp [relVs],h⟩
 |x::xs,k,h=>by
  obtain ⟨v,hv,h⟩:=carg_new h hf
  obtain ⟨vs,hvs,h⟩:=cargsM_new hf h
  exact ⟨v::vs,by rw [List.map_cons,relVs_cons];exact ⟨_,_,rfl,hv,hvs⟩,h⟩
theorem cif_new {b:Bool} {k:OpC} {X:Nat→HV} {Y:Nat→Res} (h:cif b k = .new X Y):b=true∧k = .new X Y:=by
 cases b with
 |true=>exact ⟨rfl,h⟩
 |false=>cases h
theorem cnew_new {t:TypeId} {x:HV} {X:Nat→HV} {Y:Nat→Res} (h:cnew t x = .new X Y):kdOk x=true∧X=(fun r=>.ptr r 0)∧Y=(fun _=>.cells x.cells t):=by
 unfold cnew at h
 split at h
 ·rename_i hk
  rw [forceL_eq] at h
  injection h with h1 h2
  exact ⟨hk,h1.symm,h2.symm⟩
 ·cases h
theorem hset_head (v:Nat) (x y:Res) (s:HS):hset ((v,x)::s) v y=(v,y)::s:=by rw [hset_cons,if_pos rfl]
/-- A row that moves, by a name that was kept free. -/
theorem grow_void {c:Cx} {G:Ghost} {s:HS} {w:World} {v:Nat} (hs:SRel G ((v,.void)::s) w) {t u ty:TypeId} {d:TyD} (hse:sliceElem c t=some d) (hrow:isRow c u=true) (hb:0 < d.bytes)
  {x y:HV} {p q:Value} (hx:rel G x p) (hy:rel G y q) {l ys:List HV} (hys:hmore d y=some ys) (hx1:x = .v (.slice none 0 0)∧l=[]∨∃ sz,x = .list .full sz l∧sz=d.size) {X:Nat→HV} {Y:Nat→Res} (h:cgrow d x l ys = .new X Y) :
  Gives ((v,.void)::s) G w ((do pure (Next.value (←Builtin.append_ #[t,u] ty #[p,q])):Sem Next).run c.P w) (X v) ((v,Y v)::s):=by
 obtain ⟨e,hd,ht⟩:=sliceElem_ok hse
 obtain ⟨du,hdu,hu⟩:=isRow_ok hrow
 obtain ⟨news,hsrc⟩:=more_ok c.P hs hy hys
 have hne:ys≠[]∧Nat.ble ((l.length+ys.length) * d.bytes) 140737488355328=true∧X=(fun r=>.list (.own r 0) d.size (l ++ ys))∧Y=(fun _=>.tok (l.length+ys.length)):=by
  unfold cgrow at h
  simp only [lenR_eq,appR_eq] at h
  split at h
  ·cases (cif_new h).2
  ·rename_i hn
   rw [forceN_eq] at h
   obtain ⟨h1,h2⟩:=cif_new h
   rw [forceL_eq] at h2
   injection h2 with h3 h4
   exact ⟨fun e=>hn e,h1,h3.symm,h4.symm⟩
 obtain ⟨hy0,hfit,rfl,rfl⟩:=hne
 have hfit:=Nat.le_of_ble_eq_true hfit
 have h0:0 < ys.length:=List.length_pos_iff.2 hy0
 obtain ⟨a0,a1,a2,a3⟩:=hs.holds v .void List.mem_cons_self
 have hr:(G.lim≤v∧G.lim=v+1∧(v,Res.tok (l.length+ys.length))::s=(v,.tok (l.length+ys.length))::(v,.void)::s)∨(v∈keys ((v,Res.void)::s)∧G.lim=G.lim∧(v,Res.tok (l.length+ys.length))::s=hset ((v,.void)::s) v (.tok (l.length+ys.length))∧∀ tp,G.top v=some tp→tp.n < l.length+ys.length):=
  .inr ⟨by simp [keys],rfl,(hset_head _ _ _ _).symm,fun tp e=>by rw [a2] at e;cases e⟩
 have nil:∀ {base:Option Addr},l=[]→p = .slice base 0 0→(∀ w',w'.heap=w.heap→(Builtin.firstCells d.size 0 (.slice base 0 0)).run c.P w' = .ok #[] w')→Gives ((v,.void)::s) G w ((do pure (Next.value (←Builtin.append_ #[t,u] ty #[p,q])):Sem Next).run c.P w) (.list (.own v 0) d.size (l ++ ys)) ((v,.tok (l.length+ys.length))::s):=by
  intro base hl hp hold
  subst hl hp
  exact moved (l:=[]) (olds:=[]) (cp:=0) (base:=base) (ty:=ty) hs ht hu hdu hd (fun w' hw=>hold w' hw) (by simp) (fun _ _ _ _ _=>by simp only [relAts]) hsrc (by simpa using h0) hb (by simpa using hfit) (by omega) hr
 rcases hx1 with ⟨rfl,hl⟩|⟨sz,rfl,rfl⟩
 ·exact nil hl (rel_v_eq hx) (fun w' _=>by simp [Builtin.firstCells])
 ·rcases rel_list hx with ⟨hl,rfl,_⟩|⟨b,o,cp,rfl,hcp,ha,hcn⟩|⟨hl,_,ad,rfl⟩
  ·exact nil hl rfl (fun w' _=>by simp [Builtin.firstCells])
  ·have hcn:cp=l.length:=hcn
   subst hcn
   obtain ⟨olds,o1,o2,o3⟩:=old_list c.P hs ha
   exact moved hs ht hu hdu hd (fun w' hw=>o2 _ w' hw) o1 o3 hsrc (by omega) hb hfit (by omega) hr
  ·exact nil hl rfl (fun w' _=>run_firstCells_some w' _ 0 ad 0 0 [] (by simp) (fun j u e=>by simp at e))
theorem append_void {c:Cx} {G:Ghost} {s:HS} {w:World} {v:Nat} (hs:SRel G ((v,.void)::s) w) {t u ty:TypeId} {x y:HV} {p q:Value} (hx:rel G x p) (hy:rel G y q) {X:Nat→HV} {Y:Nat→Res} (h:cappend c t u x y = .new X Y) :
  Gives ((v,.void)::s) G w ((do pure (Next.value (←Builtin.append_ #[t,u] ty #[p,q])):Sem Next).run c.P w) (X v) ((v,Y v)::s):=by
 unfold cappend at h
 split at h
 ·cases h
 ·rename_i d hse
  split at h
  ·cases h
  ·rename_i hchk
   simp only [Bool.and_eq_true,Nat.blt_eq] at hchk
   obtain ⟨⟨hrow,hb⟩,hsz⟩:=hchk
   split at h
   ·cases h
   ·rename_i ys hys
    split at h
    ·exact grow_void hs hse hrow hb hx hy hys (.inl ⟨rfl,rfl⟩) h
    ·split at h
     ·rename_i hz
      exact grow_void hs hse hrow hb hx hy hys (.inr ⟨_,rfl,Nat.eq_of_beq_eq_true hz⟩) h
     ·cases h
    ·split at h<;>cases h
    ·cases h
theorem elemT_slice {c:Cx} {t e:TypeId} (he:sliceElemT c t=some e) (w:World):(underlying t).run c.P w = .ok (.slice e) w:=by
 unfold sliceElemT at he
 split at he
 ·rename_i e' hd
  cases he
  exact (c.ty_ok t _ hd).slice rfl
 ·cases he
theorem makeSlice_void {c:Cx} {G:Ghost} {s:HS} {w:World} {v:Nat} (hs:SRel G ((v,.void)::s) w) {t:TypeId} {own:Bool} {x y:HV} {p q:Value} (hx:rel G x p) (hy:rel G y q) {X:Nat→HV} {Y:Nat→Res} (h:cmakeSlice c t own x y = .new X Y) :
  Gives ((v,.void)::s) G w ((do pure (Next.value (←Instr.makeSlice t p q)):Sem Next).run c.P w) (X v) ((v,Y v)::s):=by
 obtain ⟨a0,a1,a2,a3⟩:=hs.holds v .void List.mem_cons_self
 unfold cmakeSlice at h
 split at h
 ·cases h
 ·rename_i e he
  have ht:=elemT_slice he w
  split at h
  ·rename_i d z hd hz
   have hdo:=c.ty_ok e d hd
   obtain ⟨d',hd',hzr⟩:=zero_ok0 c (G:=G) hz
   rw [hd] at hd'
   cases hd'
   split at h
   ·cases h
   ·rename_i hchk
    simp only [Bool.and_eq_true,Nat.blt_eq] at hchk
    obtain ⟨⟨hsz,hb⟩,hk⟩:=hchk
    have hk:=kdOk_ne hk
    split at h
    ·rename_i k n k' m
     have e1:=rel_v_eq hx
     have e2:=rel_v_eq hy
     subst e1 e2
     split at h
     ·obtain ⟨hc,h5⟩:=cif_new h
      clear h
      simp only [Bool.and_eq_true] at hc
      have hn:=Nat.eq_of_beq_eq_true hc.1
      have hm:=Nat.le_of_ble_eq_true hc.2
      subst hn
      injection h5 with h1 h2
      subst h1 h2
      have run:=run_makeSlice (k:=k) (k':=k') ht hdo (n:=0) (c:=(m:Int)) (Int.le_refl _) (by omega) (by
       have:m * 1≤m * d.bytes:=Nat.mul_le_mul_left _ hb
       omega) (by simpa using hm) hsz hb
      have hzs:=hdo.zsize
      have post:=post_grown (w':=w) (t:=e) (r:=v) (n:=0) (e:=0) (ce:=(m:Int).toNat * d.size) (lim:=G.lim) (vs:=(Array.range ((m:Int).toNat * d.size)).map (fun x=>d.zero.cells[x % d.zero.cells.size]!)) hs rfl rfl rfl rfl (s':=(v,.tok 0)::s) (.inr ⟨by simp [keys],rfl,(hset_head _ _ _ _).symm,fun tp e=>by rw [a2] at e;cases e⟩) (by simp)
      refine ⟨_,_,_,.inl (by rw [Sem.run_bind];erw [run];rfl),?_,post⟩
      refine list_rel (by simp) (by simp only [relAts]) ?_
      refine ⟨⟨0,w.heap.size,0,_⟩,by simp only [Ghost.grown,if_true];rfl,by simp,fun _=>.inl ⟨rfl,by simp,by simp⟩⟩
     ·obtain ⟨hc,h5⟩:=cif_new h
      clear h
      simp only [Bool.and_eq_true] at hc
      have hn:=Nat.le_of_ble_eq_true hc.1
      have hm:=Nat.le_of_ble_eq_true hc.2
      rw [forceN_eq,forceN_eq,forceL_eq] at h5
      injection h5 with h1 h2
      subst h1 h2
      have run:=run_makeSlice (k:=k) (k':=k') ht hdo (n:=(n:Int)) (c:=(m:Int)) (by omega) (by omega) (by
       have:m * 1≤m * d.bytes:=Nat.mul_le_mul_left _ hb
       omega) (by simpa using hm) hsz hb
      have hzs:=hdo.zsize
      refine ⟨_,_,G.newAs v w.heap.size,.inl (by rw [Sem.run_bind];erw [run];rfl),?_,post_newAs hs _ _ ⟨w.heap.size,_,by simp [Ghost.newAs],by simp [Ghost.newAs],pushed_new w _,?_,fun o=>hs.K_new (Nat.le_refl _) o⟩⟩
      ·exact rel_leaf (by simp only [relC];exact ⟨w.heap.size,by simp [Ghost.newAs],by simp⟩) rfl
      ·have:=rep_rel hzr hk m (by rw [hzs];exact hsz)
       rw [hzs] at this
       simp only [hzs,Int.toNat_natCast]
       exact relCs.mono (newAs_le hs _) _ _ this
    ·cases h
  ·cases h
theorem makeMap_void {c:Cx} {G:Ghost} {s:HS} {w:World} {v:Nat} (hs:SRel G ((v,.void)::s) w) {t:TypeId} {hint:Option Value} (hh:∀ v,hint=some v→∃ k n,v = .int k n) {X:Nat→HV} {Y:Nat→Res} (h:cmakeMap c t = .new X Y) :
  Gives ((v,.void)::s) G w ((do pure (Next.value (←Instr.makeMap t hint)):Sem Next).run c.P w) (X v) ((v,Y v)::s):=by
 unfold cmakeMap at h
 split at h
 ·rename_i e
  injection h with h1' h2'
  subst h1' h2'
  obtain ⟨i,u,h1,h2,_,_,_,_,h3,_⟩:=c.ty_ok t _ e
  obtain ⟨kt,et,hu⟩:∃ kt et,u = .map kt et:=by cases u<;>simp [shOK] at h3 ⊢
  subst hu
  have run:(Instr.makeMap t hint).run c.P w = .ok (.map (some w.heap.size)) (World.pushed w (.map #[] 0)):=by
   cases hint with
   |none=>simp [Instr.makeMap,Go.newObj,Sem.run,World.pushed]
   |some v=>
    obtain ⟨k,n,rfl⟩:=hh v rfl
    simp [Instr.makeMap,run_underlying h2,asInt,asIntOf,Go.newObj,Sem.run,World.pushed,Result.andThen]
  exact ⟨_,_,G.newAs v w.heap.size,.inl (by rw [Sem.run_bind,run];rfl),rel_leaf (by simp only [relC];exact ⟨w.heap.size,by simp [Ghost.newAs],rfl⟩) rfl,post_newAs hs _ _ ⟨w.heap.size,#[],0,by simp [Ghost.newAs],by simp [Ghost.newAs],pushed_new w _,rfl⟩⟩
 ·cases h
theorem cbuiltin_append {c:Cx} {ts:List TypeId} {xs:List HV} {X:Nat→HV} {Y:Nat→Res} (h:cbuiltin c .append ts xs = .new X Y):∃ t u x y,ts=[t,u]∧xs=[x,y]∧cappend c t u x y = .new X Y:=by
 rcases ts with _|⟨t,_|⟨u,_|⟨_,_⟩⟩⟩<;>rcases xs with _|⟨x,_|⟨y,_|⟨_,_⟩⟩⟩<;>first|exact ⟨_,_,_,_,rfl,rfl,h⟩|cases h
theorem cop_new (c:Cx) {G:Ghost} {s:HS} {w:World} {n v:Nat} {a:Fr} {ra:Act} (hs:SRel G ((v,.void)::s) w) (hf:FRel G n a ra) (o:Oper) {X:Nat→HV} {Y:Nat→Res} (hn:newOp o.op=true) (h:cop c o.op a = .new X Y) :
  Gives ((v,.void)::s) G w ((execOp ra.eval o).run c.P w) (X v) ((v,Y v)::s):=by
 obtain ⟨dst,op,type,pos,after,guard⟩:=o
 cases op<;>(first|(exfalso;revert hn;simp [newOp];done)|skip)
 case alloc t=>
  have h:cAlloc c t = .new X Y:=h
  unfold cAlloc at h
  split at h
  ·rename_i z hz
   obtain ⟨d,hd,hr⟩:=zero_ok c (G:=G) hz
   have ht:=c.ty_ok t d hd
   obtain ⟨hk,rfl,rfl⟩:=cnew_new h
   have:=newAs_ok c.P hs t hr hk
   have e:(execOp ra.eval ⟨dst,.alloc t,type,pos,after,guard⟩).run c.P w=(do pure (Next.value (←(do pure (Value.pointer (some (←newVar t d.zero)))))):Sem Next).run c.P w:=by
    simp [execOp,Instr.alloc,ht.zero]
   rw [e]
   exact this
  ·cases h
 case box t x=>
  have h:carg a x (cnew t) = .new X Y:=h
  obtain ⟨u,hu,h⟩:=carg_new h hf
  obtain ⟨hk,rfl,rfl⟩:=cnew_new h
  exact newAs_ok c.P hs t hu hk
 case makeSlice t x y=>
  have h:carg a x (fun u=>carg a y fun v=>cmakeSlice c t (isZeroOp x) u v) = .new X Y:=h
  obtain ⟨u,hu,h⟩:=carg_new h hf
  obtain ⟨u',hu',h⟩:=carg_new h hf
  exact makeSlice_void hs hu hu' h
 case makeMap t r=>
  cases r with
  |none=>
   have h:cmakeMap c t = .new X Y:=h
   exact makeMap_void (hint:=none) hs (by simp) h
  |some x=>
   have h:carg a x (cMakeMap c t) = .new X Y:=h
   obtain ⟨u,hu,h⟩:=carg_new h hf
   unfold cMakeMap at h
   split at h
   ·rename_i k n
    have e:=rel_v_eq hu
    have:=makeMap_void (hint:=some (.int k n)) hs (fun v h=>by cases h;exact ⟨k,n,rfl⟩) h
    simpa [execOp,e] using this
   ·cases h
 case call cl=>
  obtain ⟨callee,xs,ts⟩:=cl
  cases callee with
  |value f=>exact absurd hn (by simp [newOp])
  |invoke r m=>exact absurd hn (by simp [newOp])
  |builtin b=>
   have hb:b = .append:=by cases b<;>first|rfl|(exfalso;revert hn;simp [newOp];done)
   subst hb
   have h:(cargsM a xs.toList fun xs=>cbuiltin c .append ts.toList xs) = .new X Y:=h
   obtain ⟨vs,hvs,h⟩:=cargsM_new hf h
   simp only [execOp,resolve,invoke,pure_bind]
   obtain ⟨t,u,x,y,e,e',h⟩:=cbuiltin_append h
   have e:ts = #[t,u]:=by rw [←Array.toArray_toList (xs:=ts),e]
   subst e e'
   simp only [relVs_cons] at hvs
   obtain ⟨p,us,e1,h1,q,us',e2,h2,h3⟩:=hvs
   simp only [relVs] at h3
   subst h3 e2
   have:=append_void (ty:=type) hs h1 h2 h
   have e3:xs.map ra.eval = #[p,q]:=by rw [←mapArr,e1]
   rw [e3]
   exact this
end Go.Proofs.Hk

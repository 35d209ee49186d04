import Derived.Test.YtbdpdhnglnhlhaaGreatDoorH8
import Derived.Orders
import Derived.IntWalk
set_option linter.unusedSimpArgs false
set_option linter.unusedVariables false
namespace Go.Proofs.Hk
noncomputable section
open Go
theorem tagRel.mono {G G':Ghost} (le:G.Le G') {g:Tag} {x:HV} {u:Value} (h:tagRel G g x u):tagRel G' g x u:=by
 cases g with
 |sure=>exact rel.mono le h
 |cond b=>exact ⟨fun e=>(h.1 e).mono le,h.2⟩
theorem FRel.mono {G G':Ghost} (le:G.Le G') {n:Nat} {a:Fr} {ra:Act} (h:FRel G n a ra):FRel G' n a ra:=
 ⟨h.size,h.defers.trans le.df.symm,fun t g x e=>⟨(h.slots t g x e).1,(h.slots t g x e).2.mono le⟩⟩
theorem FRel.put {G:Ghost} {n:Nat} {a a':Fr} {ra:Act} (h:FRel G n a ra) {dst:Option Tmp} {g:Tag} {x:HV} {u:Value} (e:hput n dst g x a=some a') (hu:tagRel G g x u):FRel G n a' (ra.put dst u):=by
 unfold hput at e
 split at e
 ·cases e;exact h
 ·rename_i d
  split at e
  ·rename_i hd
   cases e
   have hd:d < n:=by simpa [Nat.blt_eq] using hd
   refine ⟨by simp [Act.put,h.size],h.defers,fun t g' x' e'=>?_⟩
   simp only [Fr.get] at e'
   split at e'
   ·rename_i ht
    have ht:=Nat.eq_of_beq_eq_true ht
    subst ht
    cases e'
    refine ⟨hd,?_⟩
    have:((ra.put (some d) u).tmps).getD d undef=u:=by
     simp only [Act.put,Array.getD_eq_getD_getElem?]
     rw [Array.getElem?_setIfInBounds_self_of_lt (by rw [h.size];exact hd)]
     rfl
    rw [this];exact hu
   ·rename_i ht
    have hne:d≠t:=fun e=>by subst e;simp at ht
    have:=h.slots t g' x' e'
    refine ⟨this.1,?_⟩
    have e2:((ra.put (some d) u).tmps).getD t undef=ra.tmps.getD t undef:=by
     simp only [Act.put,Array.getD_eq_getD_getElem?]
     rw [Array.getElem?_setIfInBounds_ne hne]
    rw [e2];exact this.2
  ·cases e
/-- Forgetting. -/
def Fr.Sub (a b:Fr):Prop:=∀ t g x,a.get t=some (g,x)→b.get t=some (g,x)
theorem FRel.sub {G:Ghost} {n:Nat} {a b:Fr} {ra:Act} (h:FRel G n b ra) (hs:a.Sub b):FRel G n a ra:=
 ⟨h.size,h.defers,fun t g x e=>h.slots t g x (hs t g x e)⟩
def Lift (n:Nat) (s0:HS) (G0:Ghost) (w0:World) (Q:HExit→Fr→HS→Prop):Exit→Act→World→Prop:=
 fun e ra w=>∃ he a s G,Q he a s∧exitRel G he e∧FRel G n a ra∧Post s0 G0 w0 s G w
theorem SemWp.lift {P:Program} {n:Nat} {code:Code} {Q:HExit→Fr→HS→Prop} {a:Fr} {s:HS} (h:SemWp P n code Q a s) {s0:HS} {G0:Ghost} {w0:World} (h0:SRel G0 s0 w0) {G:Ghost} {w:World} {ra:Act}
  (hp:Post s0 G0 w0 s G w) (hf:FRel G n a ra):wpB P code (Lift n s0 G0 w0 Q) ra w:=
 wpB_mono (h.out G w ra hp.srel hf) fun _ _ _ ⟨he,a',s',G',hq,hr,hf',hp'⟩=>⟨he,a',s',G',hq,hr,hf',hp.trans h0 hp'⟩
theorem SemWp.mono {P:Program} {n:Nat} {code:Code} {Q Q':HExit→Fr→HS→Prop} {a:Fr} {s:HS} (h:SemWp P n code Q a s) (hq:∀ e a s,Q e a s→Q' e a s):SemWp P n code Q' a s:=
 ⟨fun G w ra hs hf=>wpB_mono (h.out G w ra hs hf) fun _ _ _ ⟨he,a',s',G',q,hr,hf',hp'⟩=>⟨he,a',s',G',hq _ _ _ q,hr,hf',hp'⟩⟩
theorem SemWp.forget {P:Program} {n:Nat} {code:Code} {Q:HExit→Fr→HS→Prop} {a b:Fr} {s:HS} (h:SemWp P n code Q a s) (hs:a.Sub b):SemWp P n code Q b s:=
 ⟨fun G w ra hr hf=>h.out G w ra hr (hf.sub hs)⟩
theorem SemWp.done {P:Program} {n:Nat} {code:Code} {Q:HExit→Fr→HS→Prop} {a:Fr} {s:HS} {he:HExit} {e:Exit} (hw:∀ (R:Exit→Act→World→Prop) (ra:Act) (w:World),R e ra w→wpB P code R ra w) (hr:∀ G,exitRel G he e) (h:Q he a s):SemWp P n code Q a s:=
 ⟨fun G w ra hs hf=>hw _ ra w ⟨he,a,s,G,h,hr G,hf,.refl hs⟩⟩
theorem SemWp.seq {P:Program} {n:Nat} {x y:Code} {Q:HExit→Fr→HS→Prop} {a:Fr} {s:HS} (h:SemWp P n x (fun e a s=>match e with|.normal=>SemWp P n y Q a s|e=>Q e a s) a s):SemWp P n (.seq x y) Q a s:=
 ⟨fun G w ra hs hf=>wpB_seq (wpB_mono (h.out G w ra hs hf) fun e ra' w' ⟨he,a',s',G',q,hr,hf',hp⟩=>by
  cases he with
  |normal=>
   cases e<;>first|exact hr.elim|skip
   exact q.lift hs hp hf'
  |exit i=>cases e<;>first|exact hr.elim|exact ⟨.exit i,a',s',G',q,hr,hf',hp⟩
  |ret=>cases e<;>first|exact hr.elim|exact ⟨.ret,a',s',G',q,hr,hf',hp⟩
  |pan x=>cases e<;>first|exact hr.elim|exact ⟨.pan x,a',s',G',q,hr,hf',hp⟩)⟩
theorem SemWp.block {P:Program} {n:Nat} {id:Nat} {b:Code} {Q:HExit→Fr→HS→Prop} {a:Fr} {s:HS} (h:SemWp P n b (hinBlock id Q) a s):SemWp P n (.block id b) Q a s:=
 ⟨fun G w ra hs hf=>wpB_block (wpB_mono (h.out G w ra hs hf) fun e ra' w' ⟨he,a',s',G',q,hr,hf',hp⟩=>by
  cases he with
  |normal=>cases e<;>first|exact hr.elim|exact ⟨.normal,a',s',G',q,hr,hf',hp⟩
  |exit i=>
   cases e<;>first|exact hr.elim|skip
   have hij:i=_:=hr
   subst hij
   simp only [hinBlock] at q
   simp only [Exit.inBlock]
   split at q
   ·rename_i hb
    rw [if_pos (Nat.eq_of_beq_eq_true hb)]
    exact ⟨.normal,a',s',G',q,trivial,hf',hp⟩
   ·rename_i hb
    rw [if_neg (fun e=>by subst e;simp at hb)]
    exact ⟨.exit i,a',s',G',q,rfl,hf',hp⟩
  |ret=>cases e<;>first|exact hr.elim|exact ⟨.ret,a',s',G',q,hr,hf',hp⟩
  |pan x=>cases e<;>first|exact hr.elim|exact ⟨.pan x,a',s',G',q,hr,hf',hp⟩)⟩
/-- A loop, by what holds at every round's head and a measure. -/
theorem SemWp.loop {P:Program} {n:Nat} {b:Code} {Q:HExit→Fr→HS→Prop} {a:Fr} {s:HS} (I:Nat→Fr→HS→Prop) (m0:Nat) (h0:I m0 a s)
  (round:∀ m a s,I m a s→SemWp P n b (fun e a' s'=>match e with|.normal=>∃ m',m' < m∧I m' a' s'|e=>Q e a' s') a s):SemWp P n (.loop b) Q a s:=
 ⟨fun G w ra hs hf=>by
  refine wpB_loop (fun m ra1 w1=>∃ a1 s1 G1,I m a1 s1∧FRel G1 n a1 ra1∧Post s G w s1 G1 w1) m0 ⟨a,s,G,h0,hf,.refl hs⟩ ?_
  rintro m ra1 w1 ⟨a1,s1,G1,hI,hf1,hp1⟩
  refine wpB_mono ((round m a1 s1 hI).lift hs hp1 hf1) fun e ra2 w2 ⟨he,a2,s2,G2,q,hr,hf2,hp2⟩=>?_
  cases he with
  |normal=>
   cases e<;>first|exact hr.elim|skip
   obtain ⟨m',hlt,hI'⟩:=q
   exact ⟨m',hlt,a2,s2,G2,hI',hf2,hp2⟩
  |exit i=>cases e<;>first|exact hr.elim|exact ⟨.exit i,a2,s2,G2,q,hr,hf2,hp2⟩
  |ret=>cases e<;>first|exact hr.elim|exact ⟨.ret,a2,s2,G2,q,hr,hf2,hp2⟩
  |pan x=>cases e<;>first|exact hr.elim|exact ⟨.pan x,a2,s2,G2,q,hr,hf2,hp2⟩⟩
theorem active_ok {all:Array Oper} {a:Fr} {o:Oper} {tg:Tag} {G:Ghost} {n:Nat} {ra:Act} (hf:FRel G n a ra) (h:active all a o=some tg) :
  Region.wanted o (yielded all ra.tmps)=(match tg with|.sure=>true|.cond b=>b):=by
 unfold active at h
 unfold Region.wanted
 split at h
 ·rename_i hg;cases h;rw [hg]
 ·rename_i j want hg
  rw [hg]
  split at h
  ·cases h
  ·rename_i oj hj
   split at h
   ·cases h
   ·rename_i d hd
    have hy:∀ v,ra.tmps.getD d undef=v→d < n→yielded all ra.tmps j=(match v with|.bool b=>some b|_=>none):=fun v hv hdn=>by
     have:ra.tmps[d]? = some v:=by
      rw [←hv,Array.getD_eq_getD_getElem?,Array.getElem?_eq_getElem (by rw [hf.size];exact hdn)]
      rfl
     simp only [yielded,hj,hd,Option.bind_some,this]
     cases v<;>rfl
    split at h
    ·rename_i b he
     obtain ⟨hdn,hr⟩:=hf.slots d _ _ he
     have:=rel_v_eq hr
     simp only []
     rw [hy _ this hdn]
     cases want<;>simp only [Option.some.injEq] at h<;>subst h<;>cases b<;>rfl
    ·rename_i g b he
     obtain ⟨hdn,hr1,hr2⟩:=hf.slots d _ _ he
     simp only []
     cases g with
     |true=>
      have:=rel_v_eq (hr1 rfl)
      rw [hy _ this hdn]
      cases want<;>simp only [Option.some.injEq] at h<;>subst h<;>cases b<;>rfl
     |false=>
      rw [hy _ (hr2 rfl) hdn]
      cases want<;>simp only [Option.some.injEq] at h<;>subst h<;>rfl
    ·cases h
theorem upon_gives {P:Program} {o:Oper} {ra:Act} {next:Act→World→Prop} {QR:Exit→Act→World→Prop} {r:Result Next} {u:Value} {w':World} (hy:Yields r u w') (h:next (ra.put o.dst u) w'):Oper.uponY P o ra next QR r:=by
 rcases hy with rfl|⟨rfl,rfl⟩
 ·exact h
 ·exact h
theorem opsWp_ok (c:Cx) (n:Nat) (all:Array Oper) (Q:HExit→Fr→HS→Prop) {s0:HS} {G0:Ghost} {w0:World} (h0:SRel G0 s0 w0) :
  ∀ (l:List Oper) (k:Nat),all.toList.drop k=l→∀ (a:Fr) (s:HS) (G:Ghost) (w:World) (ra:Act),opsWp c n all Q l a s→Post s0 G0 w0 s G w→FRel G n a ra→
   wpOpsY c.P all (Lift n s0 G0 w0 Q) (List.range' k l.length) ra w:=by
 intro l
 induction l with
 |nil=>intro k _ a s G w ra h hp hf;exact ⟨.normal,a,s,G,h,trivial,hf,hp⟩
 |cons o rest ih=>
  intro k hk a s G w ra h hp hf
  have hko:all[k]? = some o:=by
   have:(all.toList.drop k)[0]? = some o:=by rw [hk];rfl
   rw [List.getElem?_drop] at this
   simpa using this
  have hrest:all.toList.drop (k+1)=rest:=by rw [←List.drop_drop,hk];rfl
  simp only [List.length_cons,List.range'_succ,wpOpsY,hko]
  have next:∀ {g:Tag} {x:HV} {s':HS} {G':Ghost} {w':World} {u:Value},Post s G w s' G' w'→tagRel G' g x u→(match hput n o.dst g x a with|none=>False|some a'=>opsWp c n all Q rest a' s')→wpOpsY c.P all (Lift n s0 G0 w0 Q) (List.range' (k+1) rest.length) (ra.put o.dst u) w':=by
   intro g x s' G' w' u hp' hu hm
   split at hm
   ·exact hm.elim
   ·rename_i a' ha
    exact ih (k+1) hrest a' s' G' w' _ hm (hp.trans h0 hp') ((hf.mono hp'.ext.le).put ha hu)
  have off:(match hput n o.dst (.cond false) (.v undef) a with|none=>False|some a'=>opsWp c n all Q rest a' s)→wpOpsY c.P all (Lift n s0 G0 w0 Q) (List.range' (k+1) rest.length) (ra.put o.dst undef) w:=fun hm=>
   next (g:=.cond false) (.refl hp.srel) ⟨(fun e=>by cases e),fun _=>rfl⟩ hm
  have hsem:=hop_ok c hp.srel hf o
  have called:∀ {f:FuncId} {xs:List HV} {vs:Array Value},(execOp ra.eval o).run c.P w = .ok (.enter f vs) w→relVs G xs vs.toList→CallWp c f xs s (fun x s'=>match hput n o.dst .sure x a with
    |none=>False
    |some a'=>opsWp c n all Q rest a' s') (fun x s'=>Q (.pan x) a s')→Oper.wpY c.P o ra w (wpOpsY c.P all (Lift n s0 G0 w0 Q) (List.range' (k+1) rest.length)) (Lift n s0 G0 w0 Q):=by
   intro f xs vs hr hx hc
   unfold Oper.wpY
   rw [hr,Oper.uponY_enter]
   refine (hc.out.out G w vs hp.srel hx).mono fun e w' ⟨he,s',G',hR,hrel,hp'⟩=>?_
   cases he with
   |ret x=>
    cases e<;>first|exact hrel.elim|skip
    exact next (g:=.sure) hp' hrel hR
   |pan x=>
    cases e<;>first|exact hrel.elim|skip
    exact ⟨.pan x,a,s',G',hR,hrel,hf.mono hp'.ext.le,hp.trans h0 hp'⟩
  simp only [opsWp] at h
  split at h
  ·exact h.elim
  ·rename_i hact
   have hw:=active_ok hf hact
   simp only [] at hw
   rw [hw]
   simp only [if_true]
   refine .inl ?_
   generalize hop c o.op a s=q at h hsem
   induction q with
   |bad=>exact h.elim
   |pure x=>
    obtain ⟨u,w',G',hy,hr,hp'⟩:=hsem
    exact upon_gives hy (next (g:=.sure) hp' hr h)
   |val φ x=>
    obtain ⟨hφ,h⟩:=h
    obtain ⟨u,w',G',hy,hr,hp'⟩:=hsem hφ
    exact upon_gives hy (next (g:=.sure) hp' hr h)
   |call φ f xs=>
    obtain ⟨hφ,h⟩:=h
    obtain ⟨vs,hr,hx⟩:=hsem hφ
    exact called hr hx h
   |pan φ x=>
    obtain ⟨hφ,h⟩:=h
    obtain ⟨u,hr,hu⟩:=hsem hφ
    unfold Oper.wpY
    rw [hr,Oper.uponY_panic]
    exact ⟨.pan _,a,s,G,h,⟨u,rfl,hu⟩,hf,hp⟩
   |eff W=>
    obtain ⟨x,s',hK,u,w',G',hy,hr,hp'⟩:=hsem _ h
    exact upon_gives hy (next (g:=.sure) hp' hr hK)
   |look r k ihq=>
    obtain ⟨x,hx,h⟩:=h
    exact ihq x h (hsem x hx)
  ·rename_i b hact
   have hw:=active_ok hf hact
   simp only [] at hw
   rw [hw]
   generalize hop c o.op a s=q at h hsem
   induction q with
   |bad=>exact h.elim
   |pure x=>
    obtain ⟨u,w',G',hy,hr,hp'⟩:=hsem
    cases b with
    |true=>exact .inl (upon_gives hy (next (g:=.cond true) hp' ⟨fun _=>hr,(fun e=>by cases e)⟩ h))
    |false=>exact next (g:=.cond false) (.refl hp.srel) ⟨(fun e=>by cases e),fun _=>rfl⟩ h
   |val φ x=>
    obtain ⟨hφ,h⟩:=h
    cases b with
    |true=>
     obtain ⟨u,w',G',hy,hr,hp'⟩:=hsem (hφ rfl)
     exact .inl (upon_gives hy (next (g:=.cond true) hp' ⟨fun _=>hr,(fun e=>by cases e)⟩ h))
    |false=>exact next (g:=.cond false) (.refl hp.srel) ⟨(fun e=>by cases e),fun _=>rfl⟩ h
   |call φ f xs=>
    rcases h with ⟨⟨x,hq,h⟩|h⟩
    ·cases b with
     |true=>
      obtain ⟨hφ,hc⟩:=hq rfl
      obtain ⟨vs,hr,hx⟩:=hsem hφ
      refine .inl ?_
      unfold Oper.wpY
      rw [hr,Oper.uponY_enter]
      refine (hc.out.out G w vs hp.srel hx).mono fun e w' ⟨he,s',G',⟨h1,h2⟩,hrel,hp'⟩=>?_
      subst h1 h2
      cases e<;>first|exact hrel.elim|skip
      exact next (g:=.cond true) hp' ⟨fun _=>hrel,(fun e=>by cases e)⟩ h
     |false=>exact next (g:=.cond false) (.refl hp.srel) ⟨(fun e=>by cases e),fun _=>rfl⟩ h
    ·cases b with
     |true=>
      obtain ⟨hφ,h⟩:=h.1 rfl
      obtain ⟨vs,hr,hx⟩:=hsem hφ
      exact .inl (called hr hx h)
     |false=>exact off (h.2 rfl)
   |pan φ x=>
    cases b with
    |true=>
     obtain ⟨hφ,h⟩:=h.1 rfl
     obtain ⟨u,hr,hu⟩:=hsem hφ
     refine .inl ?_
     unfold Oper.wpY
     rw [hr,Oper.uponY_panic]
     exact ⟨.pan _,a,s,G,h,⟨u,rfl,hu⟩,hf,hp⟩
    |false=>exact off (h.2 rfl)
   |eff W=>
    cases b with
    |true=>
     obtain ⟨x,s',hK,u,w',G',hy,hr,hp'⟩:=hsem _ (h.1 rfl)
     exact .inl (upon_gives hy (next (g:=.sure) hp' hr hK))
    |false=>exact off (h.2 rfl)
   |look r k ihq=>
    obtain ⟨x,hx,h⟩:=h
    exact ihq x h (hsem x hx)
theorem hwp_sound (c:Cx) (n:Nat):∀ (code:Code) (Q:HExit→Fr→HS→Prop) (a:Fr) (s:HS),hwp c n code Q a s→SemWp c.P n code Q a s
 |.skip,Q,a,s,h=>.done (he:=.normal) (fun _ _ _=>wpB_skip) (fun _=>trivial) h
 |.label _,Q,a,s,h=>.done (he:=.normal) (fun _ _ _=>wpB_label) (fun _=>trivial) h
 |.exit id,Q,a,s,h=>.done (he:=.exit id) (fun _ _ _=>wpB_exit) (fun _=>rfl) h
 |.ret,Q,a,s,h=>.done (he:=.ret) (fun _ _ _=>wpB_ret) (fun _=>trivial) h
 |.region id ops draw,Q,a,s,h=>by
  cases draw with
  |true=>exact (show DrawReg c.P n id ops Q a s from h).out
  |false=>
   refine ⟨fun G w ra hs hf=>wpB_region ?_⟩
   have:=opsWp_ok c n ops Q hs ops.toList 0 rfl a s G w ra h (.refl hs) hf
   rw [List.range_eq_range',←Array.length_toList]
   exact this
 |.seq x y,Q,a,s,h=>by
  have h:hwp c n x (hthen (hwp c n y Q) Q) a s:=h
  refine SemWp.seq ((hwp_sound c n x _ a s h).mono fun e a s hq=>?_)
  cases e with
  |normal=>exact hwp_sound c n y Q a s hq.out
  |exit i=>exact hq
  |ret=>exact hq
  |pan x=>exact hq
 |.cond t x y,Q,a,s,h=>by
  simp only [hwp] at h
  split at h
  ·rename_i b he
   refine ⟨fun G w ra hs hf=>?_⟩
   have hb:=rel_v_eq (ev_ok hf he)
   cases b with
   |true=>exact wpB_cond_true hb ((hwp_sound c n x Q a s (h.1 rfl)).out G w ra hs hf)
   |false=>exact wpB_cond_false hb ((hwp_sound c n y Q a s (h.2 rfl)).out G w ra hs hf)
  ·exact h.elim
 |.block id b,Q,a,s,h=>.block (hwp_sound c n b _ a s h)
 |.loop b,Q,a,s,h=>h
 |.rangeFunc _ _ _ _,Q,a,s,h=>h
 |.scope _,Q,a,s,h=>h
 |.goto _,Q,a,s,h=>h
 |.refuse _,Q,a,s,h=>h
/-! Bodies. -/
def resH (a:Fr):List ResultVar→Option (List HV)
 |[]=>some []
 |.tmp t::l=>match a.get t with
  |some (.sure,x)=>match resH a l with
   |some xs=>some (x::xs)
   |none=>none
  |_=>none
 |_=>none
/-- What is left to be shown at an end. -/
structure Fin (p:Prop):Prop where
 out:p
def bodyQ (rs:List ResultVar) (R:HEnd→HS→Prop):HExit→Fr→HS→Prop
 |.pan x,_,s=>Fin (R (.pan x) s)
 |.exit _,_,_=>False
 |_,a,s=>match resH a rs with
  |some [x]=>Fin (R (.ret x) s)
  |some l=>Fin (R (.ret (.tup l)) s)
  |none=>False
def initFr:List HV→Nat→Fr
 |[],_=>[]
 |x::xs,k=>(k,.sure,x)::initFr xs (k+1)
end
end Go.Proofs.Hk

namespace Go.Proofs.Hk
noncomputable section
open Go
def rdRes (tmps:Array Value):ResultVar→Sem Value
 |.tmp t=>pure (tmps.getD t undef)
 |.cell a t=>do loadVar t (←asAddr (tmps.getD a undef))
theorem results_eq (fn:Func) (tmps:Array Value):results fn tmps=(do let vs ←fn.results.mapM (rdRes tmps);pure (if h:vs.size=1 then vs[0] else .tuple vs)):=by
 unfold results
 congr 1
theorem resH_ok {P:Program} {G:Ghost} {n:Nat} {a:Fr} {ra:Act} {w:World} (hf:FRel G n a ra):∀ {rs:List ResultVar} {xs:List HV},resH a rs=some xs→
  ∃ us:List Value,(rs.mapM (rdRes ra.tmps):Sem (List Value)).run P w = .ok us w∧relVs G xs us
 |[],xs,h=>by
  simp only [resH,Option.some.injEq] at h
  subst h
  exact ⟨[],rfl,by simp [relVs]⟩
 |.tmp t::l,xs,h=>by
  simp only [resH] at h
  split at h
  ·rename_i x he
   split at h
   ·rename_i xs' hx
    cases h
    obtain ⟨us,h1,h2⟩:=resH_ok (P:=P) (w:=w) hf hx
    obtain ⟨_,hr⟩:=hf.slots t _ _ he
    exact ⟨ra.tmps.getD t undef::us,by simp only [List.mapM_cons,rdRes,Sem.run_bind,Sem.run_pure,Result.andThen_ok,h1],by rw [relVs_cons];exact ⟨_,_,rfl,hr,h2⟩⟩
   ·cases h
  ·cases h
 |.cell _ _::l,xs,h=>by simp [resH] at h
theorem initFr_get:∀ (args:List HV) (k t:Nat) (g:Tag) (x:HV),(initFr args k).get t=some (g,x)→g = .sure∧∃ i,t=k+i∧args[i]? = some x
 |[],k,t,g,x,h=>by simp [initFr,Fr.get] at h
 |y::ys,k,t,g,x,h=>by
  simp only [initFr,Fr.get] at h
  split at h
  ·rename_i hk
   have:=Nat.eq_of_beq_eq_true hk
   cases h
   exact ⟨rfl,0,by omega,rfl⟩
  ·obtain ⟨h1,i,h2,h3⟩:=initFr_get ys (k+1) t g x h
   exact ⟨h1,i+1,by omega,by simpa using h3⟩
theorem hcalls_of (c:Cx) {f:FuncId} {fn:Func} {code:Code} {args:List HV} {s:HS} {R:HEnd→HS→Prop} (hf:c.P.funcs[f]? = some fn) (hb:fn.body=some code) (hn:Nat.ble args.length fn.ntmps=true)
  (h:SemWp c.P fn.ntmps code (bodyQ fn.results.toList R) (initFr args 0) s):HCalls c.P f args s R:=
 HCalls.of_df fun G w vs hdf hs ha=>by
  have hl:=relVs_length ha
  have hn:=Nat.le_of_ble_eq_true hn
  have hsz:vs.size=args.length:=by simpa using hl
  refine calls_of_wpB hf hb (wpB_mono (h.out G w _ hs ⟨by simp;omega,hdf.symm,fun t g x e=>?_⟩) fun e ra' w' ⟨he,a',s',G',q,hr,hf',hp⟩=>?_)
  ·obtain ⟨rfl,i,rfl,hx⟩:=initFr_get args 0 t g x e
   obtain ⟨u,hu,hr⟩:=relVs_get ha i x hx
   have hi:i < args.length:=(List.getElem?_eq_some_iff.1 hx).1
   refine ⟨by omega,?_⟩
   have:(vs ++ Array.replicate (fn.ntmps - vs.size) undef).getD (0+i) undef=u:=by
    rw [Nat.zero_add,Array.getD_eq_getD_getElem?,Array.getElem?_append_left (by omega)]
    have:vs[i]? = some u:=by simpa using hu
    rw [this];rfl
   rw [this]
   exact hr
  ·have fin:∀ rs:List ResultVar,rs=fn.results.toList→(match resH a' rs with|some [x]=>Fin (R (.ret x) s')|some l=>Fin (R (.ret (.tup l)) s')|none=>False)→ra'.defers=[]∧∃ v,(results fn ra'.tmps).run c.P w' = .ok v w'∧∃ he s' G',R he s'∧endRel G' he (.returned v)∧Post s G w s' G' w':=by
    intro rs hrs hm
    refine ⟨hf'.defers.trans (hp.ext.le.df.trans hdf),?_⟩
    cases hx:resH a' rs with
    |none=>rw [hx] at hm;exact hm.elim
    |some xs=>
     rw [hx] at hm
     obtain ⟨us,h1,h2⟩:=resH_ok (P:=c.P) (w:=w') hf' hx
     have hus:=relVs_length h2
     have hrun:(fn.results.mapM (rdRes ra'.tmps):Sem (Array Value)).run c.P w' = .ok us.toArray w':=by
      rw [←Array.toArray_toList (xs:=fn.results),←hrs,List.mapM_toArray,Sem.run_map]
      rw [h1];rfl
     have hres:(results fn ra'.tmps).run c.P w' = .ok (if h:us.toArray.size=1 then us.toArray[0] else .tuple us.toArray) w':=by
      rw [results_eq,Sem.run_bind,hrun]
      rfl
     match xs,hm,h2,hus with
     |[x],hm,h2,hus=>
      simp only [relVs_cons] at h2
      obtain ⟨u,us',rfl,hr1,hr2⟩:=h2
      simp only [relVs] at hr2
      subst hr2
      exact ⟨u,hres,_,s',G',hm.out,hr1,hp⟩
     |[],hm,h2,hus=>
      simp only [relVs] at h2
      subst h2
      exact ⟨_,hres,_,s',G',hm.out,(show rel G' (.tup []) (.tuple [].toArray) from tup_rel (by simp [relVs])),hp⟩
     |x::y::l,hm,h2,hus=>
      have hne:¬ us.toArray.size=1:=by simp at hus ⊢;omega
      rw [dif_neg hne] at hres
      exact ⟨_,hres,_,s',G',hm.out,tup_rel h2,hp⟩
   cases he with
   |normal=>cases e<;>first|exact hr.elim|exact fin _ rfl q
   |ret=>cases e<;>first|exact hr.elim|exact fin _ rfl q
   |exit i=>exact q.elim
   |pan x=>
    cases e<;>first|exact hr.elim|skip
    exact ⟨hf'.defers.trans (hp.ext.le.df.trans hdf),.pan x,s',G',q.out,hr,hp⟩
/-- A function by its body. -/
theorem hcalls (c:Cx) {f:FuncId} {fn:Func} {code:Code} {args:List HV} {s:HS} {R:HEnd→HS→Prop} (hf:c.P.funcs[f]? = some fn) (hb:fn.body=some code) (hn:Nat.ble args.length fn.ntmps=true)
  (h:hwp c fn.ntmps code (bodyQ fn.results.toList R) (initFr args 0) s):HCalls c.P f args s R:=hcalls_of c hf hb hn (hwp_sound c _ _ _ _ _ h)
end
end Go.Proofs.Hk

namespace Go.Proofs.Hk
noncomputable section
open Go
theorem Post.permR {s s1 s2:HS} {G G':Ghost} {w w':World} (p:s1.Perm s2) (k:Post s G w s1 G' w'):Post s G w s2 G' w':=
 ⟨k.srel.permd p,k.ext,fun r hr=>k.names r ((p.map _).mem_iff.2 hr)⟩
theorem Post.frameL {s t s':HS} {G G':Ghost} {w w':World} (h:SRel G (t ++ s) w) (k:Post s G w s' G' w'):Post (t ++ s) G w (t ++ s') G' w':=
 ((Post.frame (h.permd List.perm_append_comm) k).permL List.perm_append_comm).permR List.perm_append_comm
/-! Regions whose order is drawn. -/
abbrev GF:=Nat→Option (Tag × HV)
def gput (g:GF) (dst:Option Tmp) (e:Tag × HV):GF:=
 match dst with
 |none=>g
 |some d=>fun t=>if t=d then some e else g t
theorem gput_comm (g:GF) {x y:Option Tmp} (v u:Tag × HV) (h:∀ d,x=some d→y≠some d):gput (gput g x v) y u=gput (gput g y u) x v:=by
 cases x with
 |none=>rfl
 |some d=>
  cases y with
  |none=>rfl
  |some e=>
   have hne:d≠e:=fun he=>h d rfl (he ▸ rfl)
   funext t
   simp only [gput]
   by_cases h1:t=e
   ·subst h1;rw [if_pos rfl,if_neg (Ne.symm hne),if_pos rfl]
   ·rw [if_neg h1]
    by_cases h2:t=d
    ·rw [if_pos h2,if_pos h2]
    ·rw [if_neg h2,if_neg h2,if_neg h1]
structure FOn (S:List Tmp) (G:Ghost) (n:Nat) (g:GF) (ra:Act):Prop where
 size:ra.tmps.size=n
 defers:ra.defers=G.df
 slots:∀ t,t∈S→∀ tg x,g t=some (tg,x)→t < n∧tagRel G tg x (ra.tmps.getD t undef)
structure FAll (G:Ghost) (n:Nat) (g:GF) (ra:Act):Prop where
 size:ra.tmps.size=n
 defers:ra.defers=G.df
 slots:∀ t tg x,g t=some (tg,x)→t < n∧tagRel G tg x (ra.tmps.getD t undef)
theorem FAll.on {G:Ghost} {n:Nat} {g:GF} {ra:Act} (h:FAll G n g ra) (S:List Tmp):FOn S G n g ra:=⟨h.size,h.defers,fun t _=>h.slots t⟩
theorem FAll.put {G:Ghost} {n:Nat} {g:GF} {ra:Act} (h:FAll G n g ra) {dst:Option Tmp} (hd:∀ d,dst=some d→d < n) {tg:Tag} {x:HV} {u:Value} (hu:tagRel G tg x u):FAll G n (gput g dst (tg,x)) (ra.put dst u):=by
 cases dst with
 |none=>exact h
 |some d=>
  have hd:=hd d rfl
  refine ⟨by simp [Act.put,h.size],h.defers,fun t tg' x' e=>?_⟩
  simp only [gput] at e
  split at e
  ·rename_i ht
   subst ht
   cases e
   refine ⟨hd,?_⟩
   have:((ra.put (some t) u).tmps).getD t undef=u:=by
    simp only [Act.put,Array.getD_eq_getD_getElem?]
    rw [Array.getElem?_setIfInBounds_self_of_lt (by rw [h.size];exact hd)]
    rfl
   rw [this];exact hu
  ·rename_i ht
   have:=h.slots t tg' x' e
   refine ⟨this.1,?_⟩
   have e2:((ra.put (some d) u).tmps).getD t undef=ra.tmps.getD t undef:=by
    simp only [Act.put,Array.getD_eq_getD_getElem?]
    rw [Array.getElem?_setIfInBounds_ne (Ne.symm ht)]
   rw [e2];exact this.2
theorem FAll.mono {G G':Ghost} (le:G.Le G') {n:Nat} {g:GF} {ra:Act} (h:FAll G n g ra):FAll G' n g ra:=
 ⟨h.size,h.defers.trans le.df.symm,fun t tg x e=>⟨(h.slots t tg x e).1,(h.slots t tg x e).2.mono le⟩⟩
def tgB:Tag→Bool
 |.sure=>true
 |.cond b=>b
/-- What an operation comes to, a value. -/
def OpTo (P:Program) (o:Oper) (ra:Act) (w:World) (R:Value→World→Prop):Prop:=
 match (execOp ra.eval o).run P w with
 |.ok (.value u) w'=>R u w'
 |.ok .skip w'=>R undef w'
 |.ok (.enter f args) w'=>Calls P f args w' fun e w''=>∃ u,e = .returned u∧R u w''
 |_=>False
theorem OpTo.wp {P:Program} {o:Oper} {ra:Act} {w:World} {R:Value→World→Prop} {next:Act→World→Prop} {Q:Exit→Act→World→Prop} (h:OpTo P o ra w R) (hn:∀ u w',R u w'→next (ra.put o.dst u) w'):Oper.wpY P o ra w next Q:=by
 unfold OpTo at h
 unfold Oper.wpY
 generalize (execOp ra.eval o).run P w=r at *
 cases r with
 |ok nx w'=>
  cases nx<;>simp only at h<;>simp only [Oper.uponY]
  ·exact hn _ _ h
  ·exact hn _ _ h
  ·exact h.mono fun e w'' ⟨u,he,hR⟩=>by subst he;exact hn _ _ hR
 |halt x w'=>exact h.elim
section
variable (P:Program) (n:Nat) (ops:Array Oper) (t:HS) (E:List Nat)
/-- In a frame, of which only what it looks at counts, an operation yields this, and turns m to m'. -/
def YH (o:Oper) (g:GF) (m:HS) (e:Tag × HV) (m':HS):Prop:=
 (∀ d,o.dst=some d→d < n)∧∀ G w ra,SRel G (m ++ t) w→FOn (o.looksAt ops) G n g ra→
  Region.wanted o (yielded ops ra.tmps)=tgB e.1∧(tgB e.1=true→OpTo P o ra w fun u w'=>∃ G',rel G' e.2 u∧Post (m ++ t) G w (m' ++ t) G' w')
def YQ (o:Oper) (g:GF) (e:Tag × HV):Prop:=∀ m,YH P n ops t o g m e m
theorem YH.put {o:Oper} {g:GF} {m m':HS} {e:Tag × HV} (h:YH P n ops t o g m e m') {dst:Option Tmp} (hd:∀ d,dst=some d→d∉o.looksAt ops) (e':Tag × HV):YH P n ops t o (gput g dst e') m e m':=by
 refine ⟨h.1,fun G w ra hs hf=>h.2 G w ra hs ⟨hf.size,hf.defers,fun s hs' tg x eq=>hf.slots s hs' tg x ?_⟩⟩
 cases dst with
 |none=>exact eq
 |some d=>
  simp only [gput]
  rw [if_neg (fun hh:s=d=>hd d rfl (hh ▸ hs'))]
  exact eq
theorem YH.unput {o:Oper} {g:GF} {m m':HS} {e:Tag × HV} {dst:Option Tmp} {e':Tag × HV} (h:YH P n ops t o (gput g dst e') m e m') (hd:∀ d,dst=some d→d∉o.looksAt ops):YH P n ops t o g m e m':=by
 refine ⟨h.1,fun G w ra hs hf=>h.2 G w ra hs ⟨hf.size,hf.defers,fun s hs' tg x eq=>hf.slots s hs' tg x ?_⟩⟩
 cases dst with
 |none=>exact eq
 |some d=>
  simp only [gput] at eq
  rw [if_neg (fun hh:s=d=>hd d rfl (hh ▸ hs'))] at eq
  exact eq
/-- An operation as it comes up. -/
def qOpH (i:Nat) (K:GF→HS→Prop) (g:GF) (m:HS):Prop:=
 match ops[i]? with
 |none=>K g m
 |some o=>match E.contains i with
  |true=>∃ e m',tgB e.1=true∧YH P n ops t o g m e m'∧K (gput g o.dst e) m'
  |false=>∃ e,YQ P n ops t o g e∧K (gput g o.dst e) m
theorem qOpH_mono {i:Nat} {K K':GF→HS→Prop} (h:∀ g m,K g m→K' g m) {g:GF} {m:HS} (hh:qOpH P n ops t E i K g m):qOpH P n ops t E i K' g m:=by
 unfold qOpH at *
 split
 ·exact h _ _ (by simpa [*] using hh)
 ·rename_i o ho
  simp only [ho] at hh
  split
  ·rename_i hE;simp only [hE] at hh;obtain ⟨e,m',h0,h1,h2⟩:=hh;exact ⟨e,m',h0,h1,h _ _ h2⟩
  ·rename_i hE;simp only [hE] at hh;obtain ⟨e,h1,h2⟩:=hh;exact ⟨e,h1,h _ _ h2⟩
def wpAnyH (Q:GF→HS→Prop):Nat→Array Bool→GF→HS→Prop
 |0,listed,g,m=>Region.ready .any ops listed=[]∧Q g m
 |fuel+1,listed,g,m=>
  (Region.ready .any ops listed=[]→Q g m)∧
  ∀ i∈Region.ready .any ops listed,qOpH P n ops t E i (wpAnyH Q fuel (listed.setIfInBounds i true)) g m
/-- It goes through as the machine does it. -/
theorem wpAny_of_H {Q:GF→HS→Prop} {Q':Exit→Act→World→Prop} {s0:HS} {G0:Ghost} {w0:World} (h0:SRel G0 s0 w0)
  (hQ:∀ g m G w ra,Post s0 G0 w0 (m ++ t) G w→FAll G n g ra→Q g m→Q' .normal ra w) :
  ∀ (fuel:Nat) (listed:Array Bool) (g:GF) (m:HS) (G:Ghost) (w:World) (ra:Act),Post s0 G0 w0 (m ++ t) G w→FAll G n g ra→wpAnyH P n ops t E Q fuel listed g m→wpAnyY P .any ops Q' fuel listed ra w
 |0,_,g,m,G,w,ra,hp,hf,h=>⟨h.1,hQ g m G w ra hp hf h.2⟩
 |fuel+1,listed,g,m,G,w,ra,hp,hf,h=>⟨fun h1=>hQ g m G w ra hp hf (h.1 h1),fun i hi=>by
   have hi:=h.2 i hi
   unfold qOpH at hi
   unfold wpOpY
   have step:∀ {o:Oper} {e:Tag × HV} {m':HS},YH P n ops t o g m e m'→(tgB e.1=false→m'=m)→wpAnyH P n ops t E Q fuel (listed.setIfInBounds i true) (gput g o.dst e) m'→
     if Region.wanted o (yielded ops ra.tmps)=true then Oper.wpY P o ra w (wpAnyY P .any ops Q' fuel (listed.setIfInBounds i true)) Q'∨(False∧LetsOut Q') else wpAnyY P .any ops Q' fuel (listed.setIfInBounds i true) (ra.put o.dst undef) w:=by
    intro o e m' hy hoff hK
    obtain ⟨hd,hy⟩:=hy
    obtain ⟨hw,hto⟩:=hy G w ra hp.srel (hf.on _)
    rw [hw]
    cases hb:tgB e.1 with
    |true=>
     rw [if_pos rfl]
     refine .inl ((hto hb).wp fun u w' ⟨G',hr,hp'⟩=>?_)
     refine wpAny_of_H h0 hQ fuel _ _ m' G' w' _ (hp.trans h0 hp') ((hf.mono hp'.ext.le).put hd ?_) hK
     cases he:e.1 with
     |sure=>exact hr
     |cond b=>rw [he] at hb;exact ⟨fun _=>hr,(fun hb'=>by rw [show b=true from hb] at hb';cases hb')⟩
    |false=>
     rw [if_neg (by simp)]
     have:=hoff hb
     subst this
     refine wpAny_of_H h0 hQ fuel _ _ m' G w _ hp (hf.put hd ?_) hK
     cases he:e.1 with
     |sure=>rw [he] at hb;cases hb
     |cond b=>rw [he] at hb;exact ⟨(fun hb'=>by rw [show b=false from hb] at hb';cases hb'),fun _=>rfl⟩
   split
   ·rename_i ho;simp only [ho] at hi;exact wpAny_of_H h0 hQ fuel _ g m G w ra hp hf hi
   ·rename_i o ho
    simp only [ho] at hi
    split at hi
    ·obtain ⟨e,m',h1,h2,h3⟩:=hi
     exact step h2 (fun h=>by rw [h1] at h;cases h) h3
    ·obtain ⟨e,h2,h3⟩:=hi
     exact step (h2 m) (fun _=>rfl) h3⟩
/-- What has been shown of an operation that is taken first. -/
def YF (i:Nat) (o:Oper) (g:GF) (m:HS) (e:Tag × HV) (m':HS):Prop:=
 match E.contains i with
 |true=>tgB e.1=true∧YH P n ops t o g m e m'
 |false=>m'=m∧YQ P n ops t o g e
theorem YF.qOp {i:Nat} {o:Oper} {g:GF} {m m':HS} {e:Tag × HV} (hi:ops[i]? = some o) (hy:YF P n ops t E i o g m e m') {K:GF→HS→Prop} (h:K (gput g o.dst e) m'):qOpH P n ops t E i K g m:=by
 unfold qOpH
 simp only [hi]
 unfold YF at hy
 split at hy
 ·exact ⟨e,m',hy.1,hy.2,h⟩
 ·obtain ⟨rfl,hy⟩:=hy;exact ⟨e,hy,h⟩
theorem yf_of_qOp {i:Nat} {o:Oper} {g:GF} {m:HS} {K:GF→HS→Prop} (hi:ops[i]? = some o) (h:qOpH P n ops t E i K g m):∃ e m',YF P n ops t E i o g m e m'∧K (gput g o.dst e) m':=by
 unfold qOpH at h
 simp only [hi] at h
 split at h
 ·rename_i hE
  obtain ⟨e,m',h1,h2,h3⟩:=h
  exact ⟨e,m',by unfold YF;rw [hE];exact ⟨h1,h2⟩,h3⟩
 ·rename_i hE
  obtain ⟨e,h2,h3⟩:=h
  exact ⟨e,m,by unfold YF;rw [hE];exact ⟨rfl,h2⟩,h3⟩
def apartE (i j:Nat) (oi oj:Oper):Bool:=oi.apart ops oj && !(E.contains i && E.contains j)
theorem qOpH_put {i j:Nat} {oi oj:Oper} {e:Tag × HV} (hj:ops[j]? = some oj) (hap:apartE ops E i j oi oj=true) {K:GF→HS→Prop} {g:GF} {m m':HS}
  (hy:YF P n ops t E i oi g m e m') (h:qOpH P n ops t E j K (gput g oi.dst e) m') :
  qOpH P n ops t E j (fun g1 m1=>∃ m2,YF P n ops t E i oi g1 m1 e m2∧K (gput g1 oi.dst e) m2) g m:=by
 simp only [apartE,Bool.and_eq_true,Bool.not_eq_true',Bool.and_eq_false_iff] at hap
 obtain ⟨h1,h2,h3⟩:=Oper.apart_spec hap.1
 unfold qOpH at *
 simp only [hj] at *
 cases hEi:E.contains i with
 |true=>
  have hEj:E.contains j=false:=by rcases hap.2 with h|h;rw [hEi] at h;cases h;exact h
  simp only [hEj] at h ⊢
  unfold YF at hy ⊢
  simp only [hEi] at hy ⊢
  obtain ⟨ej,hq,hK⟩:=h
  refine ⟨ej,fun m0=>(hq m0).unput P n ops t h1,m',⟨hy.1,hy.2.put P n ops t h3 _⟩,?_⟩
  rw [←gput_comm g e ej h2];exact hK
 |false=>
  unfold YF at hy ⊢
  simp only [hEi] at hy ⊢
  obtain ⟨rfl,hy⟩:=hy
  cases hEj:E.contains j with
  |true=>
   simp only [hEj] at h ⊢
   obtain ⟨ej,m2,h0,hq,hK⟩:=h
   refine ⟨ej,m2,h0,hq.unput P n ops t h1,m2,⟨rfl,fun m0=>(hy m0).put P n ops t h3 _⟩,?_⟩
   rw [←gput_comm g e ej h2];exact hK
  |false=>
   simp only [hEj] at h ⊢
   obtain ⟨ej,hq,hK⟩:=h
   refine ⟨ej,fun m0=>(hq m0).unput P n ops t h1,m',⟨rfl,fun m0=>(hy m0).put P n ops t h3 _⟩,?_⟩
   rw [←gput_comm g e ej h2];exact hK
theorem wpAnyH_first {Q:GF→HS→Prop} {i:Nat} {oi:Oper} {e:Tag × HV} (hi:ops[i]? = some oi) :
  ∀ (fuel:Nat) (listed:Array Bool) (g:GF) (m m':HS),
   (∀ j oj,ops[j]? = some oj→j≠i→listed.getD j true=false→(∀ e∈oj.after,Region.binds .any e=true→e.on≠i)→apartE ops E i j oi oj=true)→
   i∈Region.ready .any ops listed→YF P n ops t E i oi g m e m'→
   wpAnyH P n ops t E Q fuel (listed.setIfInBounds i true) (gput g oi.dst e) m'→wpAnyH P n ops t E Q (fuel+1) listed g m:=by
 intro fuel
 induction fuel with
 |zero=>
  intro listed g m m' _ hr hy H
  refine ⟨fun h=>(by rw [h] at hr;cases hr),fun j hj=>?_⟩
  by_cases hji:j=i
  ·subst hji;exact hy.qOp P n ops t E hi H
  ·have:=ready_mono hj hji
   rw [H.1] at this
   cases this
 |succ fuel ih=>
  intro listed g m m' hfree hr hy H
  refine ⟨fun h=>(by rw [h] at hr;cases hr),fun j hj=>?_⟩
  by_cases hji:j=i
  ·subst hji;exact hy.qOp P n ops t E hi H
  ·have h1:=H.2 j (ready_mono hj hji)
   obtain ⟨hjun,oj,hoj,hall⟩:=mem_ready.1 hj
   have hnot:∀ e∈oj.after,Region.binds .any e=true→e.on≠i:=fun e he hb heq=>by
    have h1:=hall e he hb
    have h0:=(mem_ready.1 hr).1
    rw [heq] at h1
    rcases Nat.lt_or_ge i listed.size with h'|h'
    ·simp [h'] at h0 h1;rw [h0] at h1;cases h1
    ·simp [Array.getElem?_eq_none h'] at h1
   have h2:=qOpH_put P n ops t E hoj (hfree j oj hoj hji hjun hnot) hy h1
   have hfree':∀ k ok,ops[k]? = some ok→k≠i→(listed.setIfInBounds j true).getD k true=false→
     (∀ e∈ok.after,Region.binds .any e=true→e.on≠i)→apartE ops E i k oi ok=true:=fun k ok hk hki hun hno=>by
    refine hfree k ok hk hki ?_ hno
    by_cases hjk:j=k
    ·subst hjk;exact hjun
    ·rw [getD_set_ne true hjk] at hun;exact hun
   refine qOpH_mono P n ops t E (fun g1 m1 ⟨m2,h3,h4⟩=>ih (listed.setIfInBounds j true) g1 m1 m2 hfree' (ready_mono hr (Ne.symm hji)) h3 ?_) h2
   rw [Array.setIfInBounds_comm _ _ hji]
   exact h4
def freeE (listed:Array Bool) (i:Nat):Bool:=
 match ops[i]? with
 |none=>false
 |some oi=>(List.range ops.size).all fun j=>j == i||listed.getD j true||match ops[j]? with
   |some oj=>oj.after.any (fun e=>Region.binds .any e && e.on == i)||apartE ops E i j oi oj
   |none=>true
theorem freeE_spec {i:Nat} {oi:Oper} {listed:Array Bool} (hi:ops[i]? = some oi) (h:freeE ops E listed i=true) (j:Nat) (oj:Oper)
  (hj:ops[j]? = some oj) (hne:j≠i) (hun:listed.getD j true=false) (hno:∀ e∈oj.after,Region.binds .any e=true→e.on≠i) :
  apartE ops E i j oi oj=true:=by
 simp only [freeE,hi,List.all_eq_true,List.mem_range] at h
 have h1:=h j (Array.getElem?_eq_some_iff.1 hj).1
 simp only [hj,Bool.or_eq_true,beq_iff_eq,hne,false_or,hun,Bool.false_eq_true] at h1
 rcases h1 with h1|h1
 ·obtain ⟨e,he,hb⟩:=Array.any_eq_true'.1 h1
  simp only [Bool.and_eq_true,beq_iff_eq] at hb
  exact absurd hb.2 (hno e he hb.1)
 ·exact h1
def lexE:Nat→Nat→Array Bool→Bool
 |0,_,listed=>(Region.ready .any ops listed).isEmpty
 |fuel+1,k,listed=>(Region.ready .any ops listed).contains k && freeE ops E listed k && lexE fuel (k+1) (listed.setIfInBounds k true)
/-- The text's order is one, and serves for all. -/
def lexEB:Bool:=lexE ops E ops.size 0 (Array.replicate ops.size false)
def textH (Q:GF→HS→Prop):Nat→Nat→GF→HS→Prop
 |0,_,g,m=>Q g m
 |fuel+1,k,g,m=>qOpH P n ops t E k (textH Q fuel (k+1)) g m
theorem wpAnyH_lex {Q:GF→HS→Prop} : ∀ (fuel k:Nat) (listed:Array Bool) (g:GF) (m:HS),k+fuel=ops.size→lexE ops E fuel k listed=true→textH P n ops t E Q fuel k g m→wpAnyH P n ops t E Q fuel listed g m
 |0,_,_,_,_,_,hB,h=>⟨by simpa [lexE] using hB,h⟩
 |fuel+1,k,listed,g,m,hk,hB,h=>by
  have hlt:k < ops.size:=by omega
  have h0:ops[k]? = some ops[k]:=Array.getElem?_eq_getElem hlt
  simp only [lexE,Bool.and_eq_true] at hB
  obtain ⟨⟨hr,hf⟩,hB'⟩:=hB
  obtain ⟨e,m',hy,hK⟩:=yf_of_qOp P n ops t E h0 h
  exact wpAnyH_first P n ops t E h0 fuel listed g m m' (freeE_spec ops E h0 hf) (by simpa using hr) hy (wpAnyH_lex fuel (k+1) _ _ _ (by omega) hB' hK)
end
end
end Go.Proofs.Hk

set_option linter.unusedSimpArgs false
set_option linter.unusedVariables false
namespace Go.Proofs.Hk
noncomputable section
open Go Go.Proofs
/-- A new object by a name that was kept free. -/
def Ghost.newAs (G:Ghost) (r b:Nat):Ghost:=
 {G with om:=fun q=>if q=r then some b else G.om q,role:=fun b'=>if b'=b then some r else G.role b'}
theorem newAs_le {G:Ghost} {s:HS} {w:World} {r:Nat} (h:SRel G ((r,.void)::s) w) (b0:Nat):G.Le (G.newAs r b0):=by
 obtain ⟨h0,h1,h2,h3⟩:=h.holds r .void List.mem_cons_self
 exact ⟨fun _ _ _ e=>e,fun q b e=>by
  simp only [Ghost.newAs]
  split
  ·rename_i hq;subst hq;rw [h1] at e;cases e
  ·exact e,fun _ t e=>⟨t,e,Nat.le_refl _,fun _=>rfl⟩,rfl⟩
theorem post_newAs {G:Ghost} {s:HS} {w:World} {r:Nat} (h:SRel G ((r,.void)::s) w) (o:Obj) (x:Res) (hx:holds (G.newAs r w.heap.size) (World.pushed w o) r x) :
  Post ((r,.void)::s) G w ((r,x)::s) (G.newAs r w.heap.size) (World.pushed w o):=by
 obtain ⟨h0,h1,h2,h3⟩:=h.holds r .void List.mem_cons_self
 have le:G.Le (G.newAs r w.heap.size):=⟨fun _ _ _ e=>e,fun q b e=>by
  simp only [Ghost.newAs]
  split
  ·rename_i hq;subst hq;rw [h1] at e;cases e
  ·exact e,fun _ t e=>⟨t,e,Nat.le_refl _,fun _=>rfl⟩,rfl⟩
 have hb:∀ b,b < w.heap.size→(World.pushed w o).heap[b]? = w.heap[b]?∧(G.newAs r w.heap.size).role b=G.role b∧∀ o,(G.newAs r w.heap.size).K b o=G.K b o:=fun b hb=>
  ⟨pushed_lt w o hb,by simp only [Ghost.newAs];rw [if_neg (by omega)],fun _=>rfl⟩
 have hnd:=h.keys
 simp only [keys,List.map_cons,List.nodup_cons] at hnd
 have hv:∀ q,q≠r→G.om q=none→G.top q=none→(∀ b,G.role b≠some q)→(G.newAs r w.heap.size).om q=none∧(G.newAs r w.heap.size).top q=none∧∀ b,(G.newAs r w.heap.size).role b≠some q:=fun q hq a1 a2 a3=>by
  simp only [Ghost.newAs]
  refine ⟨by rw [if_neg hq];exact a1,a2,fun b=>?_⟩
  split
  ·simp;exact fun e=>hq e.symm
  ·exact a3 b
 refine ⟨⟨fun b off v e=>pushed_cell w o (h.kw b off v e),?_,fun q y hy=>?_,fun q hq=>?_,fun b q e=>?_⟩,⟨le,by simp [World.pushed],fun b hlt _=>hb b hlt,fun _ tp e _=>e,Nat.le_refl _,rfl,rfl,rfl,fun q _ hk a1 a2 a3=>hv q (fun e=>hk (by simp [keys,e])) a1 a2 a3⟩,fun q hq=>.inl ?_⟩
 ·simp only [keys,List.map_cons,List.nodup_cons];exact hnd
 ·rcases List.mem_cons.1 hy with hy|hy
  ·cases hy;exact hx
  ·have hne:q≠r:=fun e=>hnd.1 (e ▸ List.mem_map.2 ⟨_,hy,rfl⟩)
   have ho:=h.holds q y (List.mem_cons_of_mem _ hy)
   exact ho.agree1 h le hb (fun _ _ e=>e) fun b0 b1 b2 b3=>by
    obtain ⟨c1,c2,c3⟩:=hv q hne b1 b2 b3
    exact ⟨b0,c1,c2,c3⟩
 ·have:=h.fresh q hq
  simp only [Ghost.newAs]
  have hq:G.lim≤q:=hq
  rw [if_neg (by omega)]
  exact this
 ·simp only [Ghost.newAs,World.pushed,Array.size_push] at e ⊢
  split at e
  ·rename_i hb;subst hb;cases e;omega
  ·have:=h.role b q e;omega
 ·simpa [keys] using hq
/-- A name is kept free. -/
theorem post_void {G:Ghost} {s:HS} {w:World} (h:SRel G s w):Post s G w ((G.lim,.void)::s) { G with lim:=G.lim+1} w:=by
 have hr:∀ b,G.role b≠some G.lim:=fun b e=>absurd (h.role b _ e).2 (by omega)
 have le:G.Le { G with lim:=G.lim+1}:=⟨fun _ _ _ e=>e,fun _ _ e=>e,fun _ t e=>⟨t,e,Nat.le_refl _,fun _=>rfl⟩,rfl⟩
 refine ⟨⟨h.kw,?_,fun q y hy=>?_,fun q hq=>h.fresh q (by have hq:G.lim+1≤q:=hq;omega),fun b q e=>⟨(h.role b q e).1,by have:=(h.role b q e).2;show q < G.lim+1;omega⟩⟩,⟨le,Nat.le_refl _,fun _ _ _=>⟨rfl,rfl,fun _=>rfl⟩,fun _ _ e _=>e,by simp,rfl,rfl,rfl,fun _ _ _ a b c=>⟨a,b,c⟩⟩,fun q hq=>?_⟩
 ·simp only [keys,List.map_cons,List.nodup_cons]
  exact ⟨fun hm=>by have:=h.lt_key hm;omega,h.keys⟩
 ·rcases List.mem_cons.1 hy with hy|hy
  ·cases hy;exact ⟨by simp,(h.fresh _ (Nat.le_refl _)).1,(h.fresh _ (Nat.le_refl _)).2,hr⟩
  ·exact (h.holds q y hy).agree h le (fun b _=>⟨rfl,rfl,fun _=>rfl⟩) (fun _ _ e=>e) (fun q a b c d=>⟨by show q < G.lim+1;omega,b,c,d⟩)
 ·simp only [keys,List.map_cons,List.mem_cons] at hq
  rcases hq with rfl|hq
  ·exact .inr (Nat.le_refl _)
  ·exact .inl hq
theorem drawVoid {P:Program} {n id:Nat} {ops:Array Oper} {Q:HExit→Fr→HS→Prop} {a:Fr} {s:HS} (h:∀ r,r∉keys s→DrawReg P n id ops Q a ((r,.void)::s)):DrawReg P n id ops Q a s:=
 ⟨⟨fun G w ra hs hf=>by
  have hp:=post_void hs
  exact (h G.lim (fun hm=>by have:=hs.lt_key hm;omega)).out.lift hs hp (hf.mono hp.ext.le)⟩⟩
theorem newAs_ok (P:Program) {s:HS} {G:Ghost} {w:World} {r:Nat} (hs:SRel G ((r,.void)::s) w) (t:TypeId) {x:HV} {u:Value} (hx:rel G x u) (hk:kdOk x=true) :
  Gives ((r,.void)::s) G w ((do pure (Next.value (←(do pure (Value.pointer (some (←newVar t u)))))):Sem Next).run P w) (.ptr r 0) ((r,.cells x.cells t)::s):=by
 have hc:=rel_cells hx (kdOk_ne hk)
 have hp:Post ((r,.void)::s) G w ((r,.cells x.cells t)::s) (G.newAs r w.heap.size) (World.pushed w (.cells u.cells t)):=by
  refine post_newAs hs _ _ ⟨w.heap.size,u.cells,by simp [Ghost.newAs],by simp [Ghost.newAs],pushed_new w _,?_,fun o=>hs.K_new (Nat.le_refl _) o⟩
  exact relCs.mono (newAs_le hs _) _ _ hc
 refine ⟨.pointer (some ⟨w.heap.size,0,none⟩),World.pushed w (.cells u.cells t),G.newAs r w.heap.size,.inl ?_,ptr_rel (by simp [Ghost.newAs]),hp⟩
 simp [newVar,newRow,Go.newObj,Sem.run,World.pushed]
end
end Go.Proofs.Hk

namespace Go.Proofs.Hk
noncomputable section
open Go
def memN (x:Nat) (l:List Nat):Bool:=List.rec false (fun y _ ih=>match Nat.beq x y with|true=>true|false=>ih) l
theorem memN_nil (x:Nat):memN x []=false:=rfl
theorem memN_cons (x y:Nat) (l:List Nat):memN x (y::l)=match Nat.beq x y with|true=>true|false=>memN x l:=rfl
theorem memN_iff {x:Nat} : ∀ {l:List Nat},memN x l=true↔x∈l
 |[]=>by simp [memN_nil]
 |y::l=>by
  simp only [memN_cons]
  split
  ·rename_i h;simp [Nat.eq_of_beq_eq_true h]
  ·rename_i h
   have:x≠y:=fun e=>by subst e;simp at h
   simp [this,memN_iff]
theorem memN_contains {x:Nat} {l:List Nat} : memN x l=l.contains x:=by
 have:=memN_iff (x:=x) (l:=l)
 cases h:memN x l with
 |true=>rw [h] at this;simp at this;simp [this]
 |false=>rw [h] at this;simp at this;simp [this]
def Fr.only (S:List Tmp):Fr→Fr
 |[]=>[]
 |(t,e)::a=>match memN t S with
  |true=>(t,e)::Fr.only S a
  |false=>Fr.only S a
theorem only_get (S:List Tmp):∀ (a:Fr) (t:Tmp),(Fr.only S a).get t=if memN t S=true then a.get t else none
 |[],t=>by simp [Fr.only,Fr.get]
 |(t',e)::a,t=>by
  simp only [Fr.only]
  split
  ·rename_i h
   simp only [Fr.get]
   split
   ·rename_i h'
    have:=Nat.eq_of_beq_eq_true h'
    subst this
    rw [if_pos h]
   ·exact only_get S a t
  ·rename_i h
   rw [only_get S a t]
   simp only [Fr.get]
   cases h':Nat.beq t' t with
   |true=>
    have:=Nat.eq_of_beq_eq_true h'
    subst this
    rw [h];simp
   |false=>rfl
theorem FOn.rel {S:List Tmp} {G:Ghost} {n:Nat} {a:Fr} {ra:Act} (h:FOn S G n (fun t=>a.get t) ra):FRel G n (Fr.only S a) ra:=
 ⟨h.size,h.defers,fun t tg x e=>by
  rw [only_get] at e
  split at e
  ·rename_i hm;exact h.slots t (memN_iff.1 hm) tg x e
  ·cases e⟩
structure ECall (c:Cx) (f:FuncId) (xs:List HV) (s:HS) (x:HV) (s':HS):Prop where
 out:HCalls c.P f xs s fun e s1=>e = .ret x∧s1=s'
/-- What is asked of an operation that changes nothing. -/
def OpRes.quiet (c:Cx) (t:HS) (tg:Tag) (K:HV→Prop):OpRes→Prop
 |.pure x=>K x
 |.val φ x=>match tg with
  |.sure=>Side φ (K x)
  |.cond b=>Side (b=true→φ) (K x)
 |.call φ f xs=>match tg with
  |.sure=>QAsk True c f xs t φ K
  |.cond b=>QAsk (b=true) c f xs t φ K
 |.look r k=>Look t r fun x=>OpRes.quiet c t tg K (k x)
 |.bad=>match tg with
  |.sure=>False
  |.cond b=>b=false∧∃ x,K x
 |_=>False
/-- Of one that turns m. -/
def OpRes.turns (c:Cx) (m t:HS) (K:HV→HS→Prop):OpRes→Prop
 |.pure x=>K x m
 |.val φ x=>Side φ (K x m)
 |.eff W=>∃ x m',(W fun y s'=>y=x∧s'=m' ++ t)∧K x m'
 |.call φ f xs=>∃ x m',(φ∧ECall c f xs (m ++ t) x (m' ++ t))∧K x m'
 |.look r k=>Look (m ++ t) r fun x=>OpRes.turns c m t K (k x)
 |_=>False
def drawWp (c:Cx) (n:Nat) (all:Array Oper) (t:HS) (E:List Nat) (Q:HExit→Fr→HS→Prop):List Oper→Nat→Fr→HS→Prop
 |[],_,a,m=>forceL (m ++ t) (Q .normal a)
 |o::rest,k,a,m=>match active all (Fr.only (o.looksAt all) a) o with
  |none=>False
  |some tg=>match memN k E with
   |false=>(hop c o.op (Fr.only (o.looksAt all) a) t).quiet c t tg fun x=>match hput n o.dst tg x a with
    |none=>False
    |some a'=>drawWp c n all t E Q rest (k+1) a' m
   |true=>match tg with
    |.cond _=>False
    |.sure=>((hop c o.op (Fr.only (o.looksAt all) a) (m ++ t)).turns c m t fun x m'=>match hput n o.dst .sure x a with
      |none=>False
      |some a'=>drawWp c n all t E Q rest (k+1) a' m')∨
     ∃ tt z r m0 a',o.op = .alloc tt∧hzero c tt=some z∧kdOk z=true∧m=(r,.void)::m0∧hput n o.dst .sure (.ptr r 0) a=some a'∧drawWp c n all t E Q rest (k+1) a' ((r,.cells z.cells tt)::m0)
theorem opTo_gives {P:Program} {o:Oper} {ra:Act} {s s':HS} {G:Ghost} {w:World} {x:HV} (h:Gives s G w ((execOp ra.eval o).run P w) x s'):OpTo P o ra w fun u w'=>∃ G',rel G' x u∧Post s G w s' G' w':=by
 obtain ⟨u,w',G',hy,hr,hp⟩:=h
 unfold OpTo
 rcases hy with e|⟨e,rfl⟩<;>rw [e]<;>exact ⟨G',hr,hp⟩
theorem OpTo.mono {P:Program} {o:Oper} {ra:Act} {w:World} {R R':Value→World→Prop} (h:OpTo P o ra w R) (hr:∀ u w',R u w'→R' u w'):OpTo P o ra w R':=by
 unfold OpTo at *
 split at h
 ·exact hr _ _ h
 ·exact hr _ _ h
 ·exact h.mono fun e w'' ⟨u,he,hR⟩=>⟨u,he,hr _ _ hR⟩
 ·exact h
theorem opTo_call {c:Cx} {o:Oper} {ra:Act} {s s':HS} {G:Ghost} {w:World} {f:FuncId} {vs:Array Value} {xs:List HV} {x:HV} (hs:SRel G s w) (hr:(execOp ra.eval o).run c.P w = .ok (.enter f vs) w) (hx:relVs G xs vs.toList)
  (hc:HCalls c.P f xs s fun e s1=>e = .ret x∧s1=s'):OpTo c.P o ra w fun u w'=>∃ G',rel G' x u∧Post s G w s' G' w':=by
 unfold OpTo
 rw [hr]
 refine (hc.out G w vs hs hx).mono fun e w'' ⟨he,s1,G',⟨h1,h2⟩,h3,h4⟩=>?_
 subst h1 h2
 cases e<;>first|exact h3.elim|skip
 exact ⟨_,rfl,G',h3,h4⟩
theorem SRel.right {G:Ghost} {s t:HS} {w:World} (h:SRel G (s ++ t) w):SRel G t w:=h.perm (List.sublist_append_right s t)
theorem hput_get {n:Nat} {dst:Option Tmp} {tg:Tag} {x:HV} {a a':Fr} (h:hput n dst tg x a=some a'):(fun t=>a'.get t)=gput (fun t=>a.get t) dst (tg,x)∧∀ d,dst=some d→d < n:=by
 unfold hput at h
 split at h
 ·cases h;exact ⟨rfl,fun d e=>by cases e⟩
 ·rename_i d
  split at h
  ·rename_i hd
   cases h
   refine ⟨?_,fun d' e=>by cases e;simpa [Nat.blt_eq] using hd⟩
   funext t
   simp only [Fr.get,gput]
   split
   ·rename_i h';rw [if_pos (Nat.eq_of_beq_eq_true h').symm]
   ·rename_i h'
    rw [if_neg]
    intro e;subst e;simp at h'
  ·cases h
theorem drawWp_text (c:Cx) (n:Nat) (all:Array Oper) (t:HS) (E:List Nat) (Q:HExit→Fr→HS→Prop) :
  ∀ (l:List Oper) (k:Nat),all.toList.drop k=l→∀ (a:Fr) (m:HS),drawWp c n all t E Q l k a m→
   textH c.P n all t E (fun g m=>∃ a',(fun t=>a'.get t)=g∧Q .normal a' (m ++ t)) l.length k (fun t=>a.get t) m:=by
 intro l
 induction l with
 |nil=>
  intro k _ a m h
  refine ⟨a,rfl,?_⟩
  simp only [drawWp,forceL_eq] at h
  exact h
 |cons o rest ih=>
  intro k hk a m h
  have hko:all[k]? = some o:=by
   have:(all.toList.drop k)[0]? = some o:=by rw [hk];rfl
   rw [List.getElem?_drop] at this
   simpa using this
  have hrest:all.toList.drop (k+1)=rest:=by rw [←List.drop_drop,hk];rfl
  simp only [List.length_cons,textH,qOpH,hko]
  simp only [drawWp] at h
  split at h
  ·exact h.elim
  ·rename_i tg hact
   have hwant:∀ {G:Ghost} {ra:Act},FOn (o.looksAt all) G n (fun t=>a.get t) ra→Region.wanted o (yielded all ra.tmps)=tgB tg:=fun hf=>by
    have:=active_ok hf.rel hact
    cases tg<;>exact this
   have step:∀ {x:HV} {m':HS},(match hput n o.dst tg x a with|none=>False|some a'=>drawWp c n all t E Q rest (k+1) a' m')→
     (∀ d,o.dst=some d→d < n)∧textH c.P n all t E (fun g m=>∃ a',(fun t=>a'.get t)=g∧Q .normal a' (m ++ t)) rest.length (k+1) (gput (fun t=>a.get t) o.dst (tg,x)) m':=fun {x m'} h=>by
    split at h
    ·exact h.elim
    ·rename_i a' ha
     obtain ⟨h1,h2⟩:=hput_get ha
     exact ⟨h2,h1 ▸ ih (k+1) hrest a' m' h⟩
   split at h
   ·rename_i hE
    rw [←memN_contains,hE]
    have quiet:∀ {x:HV},(∀ d,o.dst=some d→d < n)→(∀ G w ra,SRel G t w→FRel G n (Fr.only (o.looksAt all) a) ra→tgB tg=true→OpTo c.P o ra w fun u w'=>∃ G',rel G' x u∧Post t G w t G' w')→YQ c.P n all t o (fun t=>a.get t) (tg,x):=fun hd hy m=>
     ⟨hd,fun G w ra hs hf=>⟨hwant hf,fun hb=>(hy G w ra hs.right hf.rel hb).mono fun u w' ⟨G',hr,hp⟩=>⟨G',hr,hp.frameL hs⟩⟩⟩
    have sem:∀ G w ra,SRel G t w→FRel G n (Fr.only (o.looksAt all) a) ra→ResOK c.P t G w ((execOp ra.eval o).run c.P w) (hop c o.op (Fr.only (o.looksAt all) a) t):=fun G w ra hs hf=>hop_ok c hs hf o
    generalize hop c o.op (Fr.only (o.looksAt all) a) t=q at h sem
    induction q with
    |bad=>
     cases tg with
     |sure=>exact h.elim
     |cond b=>
      obtain ⟨hb0,x,hx⟩:=h
      obtain ⟨hd,hK⟩:=step hx
      exact ⟨(.cond b,x),quiet hd fun G w ra hs hf hb=>absurd hb (by simp [tgB,hb0]),hK⟩
    |pan φ x=>exact h.elim
    |eff W=>exact h.elim
    |pure x=>
     obtain ⟨hd,hK⟩:=step h
     exact ⟨(tg,x),quiet hd fun G w ra hs hf _=>opTo_gives (sem G w ra hs hf),hK⟩
    |val φ x=>
     have h:(tgB tg=true→φ)∧(match hput n o.dst tg x a with|none=>False|some a'=>drawWp c n all t E Q rest (k+1) a' m):=by
      cases tg with
      |sure=>exact ⟨fun _=>h.1,h.2⟩
      |cond b=>exact ⟨h.1,h.2⟩
     obtain ⟨hφ,h⟩:=h
     obtain ⟨hd,hK⟩:=step h
     exact ⟨(tg,x),quiet hd fun G w ra hs hf hb=>opTo_gives (sem G w ra hs hf (hφ hb)),hK⟩
    |call φ f xs=>
     have h:∃ x,(tgB tg=true→φ∧QCall c f xs t x)∧(match hput n o.dst tg x a with|none=>False|some a'=>drawWp c n all t E Q rest (k+1) a' m):=by
      cases tg with
      |sure=>obtain ⟨x,h1,h2⟩:=h;exact ⟨x,fun _=>h1 trivial,h2⟩
      |cond b=>obtain ⟨x,h1,h2⟩:=h;exact ⟨x,h1,h2⟩
     obtain ⟨x,hφ,h⟩:=h
     obtain ⟨hd,hK⟩:=step h
     refine ⟨(tg,x),quiet hd fun G w ra hs hf hb=>?_,hK⟩
     have hφ:=hφ hb
     obtain ⟨vs,hr,hx⟩:=sem G w ra hs hf hφ.1
     exact opTo_call hs hr hx hφ.2.out
    |look r k ihq=>
     obtain ⟨x,hx,h⟩:=h
     exact ihq x h fun G w ra hs hf=>sem G w ra hs hf x hx
   ·rename_i hE
    rw [←memN_contains,hE]
    split at h
    ·exact h.elim
    ·rcases h with h|⟨tt,z,r,m0,a',hop',hz,hk',rfl,hpt,h⟩
     rotate_left
     ·obtain ⟨hd,hK⟩:=step (x:=.ptr r 0) (m':=(r,.cells z.cells tt)::m0) (by rw [hpt];exact h)
      refine ⟨(.sure,.ptr r 0),(r,.cells z.cells tt)::m0,rfl,⟨hd,fun G w ra hs hf=>⟨hwant hf,fun _=>opTo_gives ?_⟩⟩,hK⟩
      obtain ⟨d,hd',hr⟩:=zero_ok c (G:=G) hz
      have ht:=c.ty_ok tt d hd'
      have:=newAs_ok c.P (s:=m0 ++ t) hs tt hr hk'
      have e:(execOp ra.eval o).run c.P w=(do pure (Next.value (←(do pure (Value.pointer (some (←newVar tt d.zero)))))):Sem Next).run c.P w:=by
       simp [execOp,hop',Instr.alloc,ht.zero]
      rw [e]
      exact this
     have sem:∀ G w ra,SRel G (m ++ t) w→FRel G n (Fr.only (o.looksAt all) a) ra→ResOK c.P (m ++ t) G w ((execOp ra.eval o).run c.P w) (hop c o.op (Fr.only (o.looksAt all) a) (m ++ t)):=fun G w ra hs hf=>hop_ok c hs hf o
     generalize hop c o.op (Fr.only (o.looksAt all) a) (m ++ t)=q at h sem
     induction q with
     |bad=>exact h.elim
     |pan φ x=>exact h.elim
     |pure x=>
      obtain ⟨hd,hK⟩:=step h
      exact ⟨(.sure,x),m,rfl,⟨hd,fun G w ra hs hf=>⟨hwant hf,fun _=>opTo_gives (sem G w ra hs hf.rel)⟩⟩,hK⟩
     |val φ x=>
      obtain ⟨hφ,h⟩:=h
      obtain ⟨hd,hK⟩:=step h
      exact ⟨(.sure,x),m,rfl,⟨hd,fun G w ra hs hf=>⟨hwant hf,fun _=>opTo_gives (sem G w ra hs hf.rel hφ)⟩⟩,hK⟩
     |eff W=>
      obtain ⟨x,m',hW,h⟩:=h
      obtain ⟨hd,hK⟩:=step h
      refine ⟨(.sure,x),m',rfl,⟨hd,fun G w ra hs hf=>⟨hwant hf,fun _=>?_⟩⟩,hK⟩
      obtain ⟨y,s',⟨rfl,rfl⟩,hg⟩:=sem G w ra hs hf.rel _ hW
      exact opTo_gives hg
     |call φ f xs=>
      obtain ⟨x,m',hW,h⟩:=h
      obtain ⟨hd,hK⟩:=step h
      refine ⟨(.sure,x),m',rfl,⟨hd,fun G w ra hs hf=>⟨hwant hf,fun _=>?_⟩⟩,hK⟩
      obtain ⟨vs,hr,hx⟩:=sem G w ra hs hf.rel hW.1
      exact opTo_call hs hr hx hW.2.out
     |look r k ihq=>
      obtain ⟨x,hx,h⟩:=h
      exact ihq x h fun G w ra hs hf=>sem G w ra hs hf x hx
/-- A region whose order is drawn, by one walk of the text's order. m: what is turned, by the operations E alone; t: what the others may read. -/
theorem drawReg (c:Cx) {n id:Nat} {ops:Array Oper} {Q:HExit→Fr→HS→Prop} {a:Fr} {s:HS} (m t:HS) (E:List Nat) (hp:(m ++ t).Perm s) (hB:lexEB ops E=true)
  (h:drawWp c n ops t E Q ops.toList 0 a m):DrawReg c.P n id ops Q a s:=
 ⟨⟨fun G w ra hs hf=>by
  have hs':SRel G (m ++ t) w:=hs.permd hp.symm
  refine wpB_region_any c.orders ?_
  have h1:=drawWp_text c n ops t E Q ops.toList 0 rfl a m h
  have h2:=wpAnyH_lex c.P n ops t E ops.size 0 _ _ _ (by simp) hB (by rw [←Array.length_toList];exact h1)
  have hp0:Post (m ++ t) G w (m ++ t) G { w with drawn:=w.drawn+1}:=Post.drawn hs' rfl rfl rfl rfl
  refine wpAny_of_H c.P n ops t E hs' (fun g m' G' w' ra' hp' hf' ⟨a',e,hQ⟩=>?_) ops.size _ _ m G _ ra hp0 ⟨hf.size,hf.defers,hf.slots⟩ h2
  subst e
  exact ⟨.normal,a',m' ++ t,G',hQ,trivial,⟨hf'.size,hf'.defers,hf'.slots⟩,hp'.permL hp⟩⟩⟩
/-- The same where nothing is turned. -/
theorem drawQ (c:Cx) {n id:Nat} {ops:Array Oper} {Q:HExit→Fr→HS→Prop} {a:Fr} {s:HS} (hB:lexEB ops []=true) (h:drawWp c n ops s [] Q ops.toList 0 a []):DrawReg c.P n id ops Q a s:=
 drawReg c [] s [] (by simp) hB h
end
end Go.Proofs.Hk

namespace Go.Proofs.Hk
noncomputable section
open Go
theorem Sub.nil (b:Fr):Fr.Sub [] b:=fun t g x h=>by simp [Fr.get] at h
theorem Sub.cons {t:Nat} {g:Tag} {x y:HV} {a b:Fr} (h:b.get t=some (g,x)) (hy:x=y) (k:Fr.Sub a b):Fr.Sub ((t,g,y)::a) b:=fun u g' x' e=>by
 subst hy
 simp only [Fr.get] at e
 split at e
 ·rename_i ht
  have:=Nat.eq_of_beq_eq_true ht
  subst this
  cases e;exact h
 ·exact k u g' x' e
theorem Sub.refl (a:Fr):a.Sub a:=fun _ _ _ h=>h
/-- A part of a state. -/
def Subp (s' s:HS):Prop:=∃ s1,s1.Perm s∧s'.Sublist s1
theorem Subp.refl (s:HS):Subp s s:=⟨s,.refl s,.refl s⟩
theorem Subp.of_eq {s' s:HS} (h:s=s'):Subp s' s:=h ▸ .refl s
theorem Subp.srel {G:Ghost} {s s':HS} {w:World} (h:SRel G s w) (p:Subp s' s):SRel G s' w:=by
 obtain ⟨s1,h1,h2⟩:=p
 exact (h.permd h1.symm).perm h2
theorem Subp.mem {s' s:HS} (p:Subp s' s):∀ x,x∈s'→x∈s:=by
 obtain ⟨s1,h1,h2⟩:=p
 exact fun x hx=>h1.mem_iff.1 (h2.subset hx)
theorem Subp.nil (s:HS):Subp [] s:=⟨s,.refl s,s.nil_sublist⟩
theorem Subp.skip {s' s:HS} (p:Subp s' s) (x:Nat × Res):Subp s' (x::s):=by
 obtain ⟨s1,h1,h2⟩:=p
 exact ⟨x::s1,h1.cons x,h2.cons x⟩
theorem Subp.keep {s' s:HS} (p:Subp s' s) (x:Nat × Res):Subp (x::s') (x::s):=by
 obtain ⟨s1,h1,h2⟩:=p
 exact ⟨x::s1,h1.cons x,h2.cons_cons x⟩
theorem Subp.perm {s' s s2:HS} (p:Subp s' s) (h:s.Perm s2):Subp s' s2:=by
 obtain ⟨s1,h1,h2⟩:=p
 exact ⟨s1,h1.trans h,h2⟩
theorem Subp.post {s s1 s':HS} {G G':Ghost} {w w':World} (p:Subp s' s1) (k:Post s G w s1 G' w'):Post s G w s' G' w':=
 k.sub (p.srel k.srel).keys p.mem
/-- More than is wanted may be left. -/
theorem SemWp.less {P:Program} {n:Nat} {code:Code} {Q:HExit→Fr→HS→Prop} {a:Fr} {s s':HS} (p:Subp s' s) (h:SemWp P n code Q a s'):SemWp P n code Q a s:=
 ⟨fun G w ra hs hf=>wpB_mono (h.out G w ra (p.srel hs) hf) fun _ _ _ ⟨he,a',s1,G',q,hr,hf',hp⟩=>by
  refine ⟨he,a',s1,G',q,hr,hf',hp.srel,?_,fun r hr=>?_⟩
  ·exact ⟨hp.ext.le,hp.ext.size,fun b hb hq=>hp.ext.blocks b hb (fun r e hk=>hq r e (by
    obtain ⟨x,hx,rfl⟩:=List.mem_map.1 hk
    exact List.mem_map.2 ⟨x,p.mem x hx,rfl⟩)),fun r tp e hq=>hp.ext.tops r tp e (fun hk=>hq (by
    obtain ⟨x,hx,rfl⟩:=List.mem_map.1 hk
    exact List.mem_map.2 ⟨x,p.mem x hx,rfl⟩)),hp.ext.lim,hp.ext.os,hp.ext.tape,hp.ext.output,fun r h0 hq=>hp.ext.voids r h0 (fun hk=>hq (by
    obtain ⟨x,hx,rfl⟩:=List.mem_map.1 hk
    exact List.mem_map.2 ⟨x,p.mem x hx,rfl⟩))⟩
  ·refine (hp.names r hr).imp (fun hk=>?_) id
   obtain ⟨x,hx,rfl⟩:=List.mem_map.1 hk
   exact List.mem_map.2 ⟨x,p.mem x hx,rfl⟩⟩
/-- A loop. i: what changes from round to round. -/
theorem hloop (c:Cx) {n:Nat} {b:Code} {Q:HExit→Fr→HS→Prop} {a:Fr} {s:HS} {ι:Type} (J:ι→Prop) (F:ι→Fr) (S:ι→HS) (μ:ι→Nat) (i0:ι) (hJ:J i0) (hF:(F i0).Sub a) (hS:Subp (S i0) s)
  (round:∀ i,J i→hwp c n b (fun e a s=>match e with|.normal=>Fin (∃ i',J i'∧μ i' < μ i∧(F i').Sub a∧Subp (S i') s)|e=>Q e a s) (F i) (S i)):hwp c n (.loop b) Q a s:=by
 refine SemWp.loop (fun m a s=>∃ i,μ i=m∧J i∧(F i).Sub a∧Subp (S i) s) (μ i0) ⟨i0,rfl,hJ,hF,hS⟩ ?_
 rintro m a s ⟨i,rfl,hJ,hF,hS⟩
 refine SemWp.less hS (SemWp.forget ((hwp_sound c n b _ _ _ (round i hJ)).mono fun e a s q=>?_) hF)
 cases e with
 |normal=>
  obtain ⟨⟨i',h1,h2,h3,h4⟩⟩:=q
  exact ⟨μ i',h2,i',rfl,h1,h3,h4⟩
 |exit j=>exact q
 |ret=>exact q
 |pan x=>exact q
/-- A piece by what holds behind it. -/
theorem hcut (c:Cx) {n:Nat} {code:Code} {Q:HExit→Fr→HS→Prop} {a a':Fr} {s s':HS} (hF:a'.Sub a) (hS:Subp s' s) (h:hwp c n code Q a' s'):SemWp c.P n code Q a s:=
 SemWp.less hS (SemWp.forget (hwp_sound c n code Q a' s' h) hF)
/-- What tells less. -/
def Weaker (x y:HV):Prop:=∀ G u,rel G x u→rel G y u
theorem Weaker.refl (x:HV):Weaker x x:=fun _ _ h=>h
theorem Weaker.tok (t:Tok) (sz:Nat) (l:List HV):Weaker (.list t sz l) (.list .no sz l):=fun G u h=>by
 rcases (rel_list h).imp id or_comm.1 with ⟨rfl,rfl,_⟩|⟨rfl,_,a,rfl⟩|⟨b,o,c,rfl,h1,h2,_⟩
 ·exact list_rel_nil trivial
 ·exact list_rel_odd a (fun _ _=>by simp)
 ·exact list_rel h1 h2 trivial
theorem Weaker.nil (sz:Nat):Weaker (.v (.slice none 0 0)) (.list .no sz []):=fun G u h=>by
 rw [rel_v_eq h];exact list_rel_nil trivial
theorem Weaker.nilFull (sz:Nat):Weaker (.v (.slice none 0 0)) (.list .full sz []):=fun G u h=>by
 rw [rel_v_eq h];exact list_rel_nil trivial
inductive WeakerL:List HV→List HV→Prop
 |nil:WeakerL [] []
 |cons {x y:HV} {l m:List HV} (h:Weaker x y) (k:WeakerL l m):WeakerL (x::l) (y::m)
theorem WeakerL.relVs {l m:List HV} (h:WeakerL l m) {G:Ghost} : ∀ {us:List Value},relVs G l us→relVs G m us:=by
 induction h with
 |nil=>exact fun h=>h
 |cons h _ ih=>
  intro us hu
  rw [relVs_cons] at hu ⊢
  obtain ⟨u,us',rfl,h1,h2⟩:=hu
  exact ⟨u,us',rfl,h G u h1,ih h2⟩
theorem Weaker.tup {l m:List HV} (h:WeakerL l m):Weaker (.tup l) (.tup m):=fun G u hu=>by
 obtain ⟨us,rfl,hv⟩:=rel_tup_inv hu
 simpa using tup_rel (h.relVs hv)
inductive WeakerE:HEnd→HEnd→Prop
 |ret {x y:HV} (h:Weaker x y):WeakerE (.ret x) (.ret y)
 |pan {x y:HV} (h:Weaker x y):WeakerE (.pan x) (.pan y)
theorem HCalls.weaken {P:Program} {f:FuncId} {args:List HV} {s:HS} {R R':HEnd→HS→Prop} (h:HCalls P f args s R) (hr:∀ e s1,R e s1→∃ e' s2,WeakerE e e'∧Subp s2 s1∧R' e' s2):HCalls P f args s R':=
 ⟨fun G w vs hs ha=>(h.out G w vs hs ha).mono fun e w' ⟨he,s1,G',hR,k,kp⟩=>by
  obtain ⟨e',s2,h1,h2,h3⟩:=hr he s1 hR
  refine ⟨e',s2,G',h3,?_,h2.post kp⟩
  cases h1 with
  |ret hw=>cases e<;>first|exact k.elim|exact hw G' _ k
  |pan hw=>
   cases e<;>first|exact k.elim|skip
   obtain ⟨u,e1,e2⟩:=k
   exact ⟨u,e1,hw G' _ e2⟩⟩
/-- At a call. -/
theorem callWp (c:Cx) {f:FuncId} {xs:List HV} {s:HS} {K E:HV→HS→Prop} {R:HEnd→HS→Prop} (h:HCalls c.P f xs s R) (hr:∀ x s',R (.ret x) s'→K x s') (he:∀ x s',R (.pan x) s'→E x s'):CallWp c f xs s K E:=
 ⟨h.mono fun e s' hR=>by
  cases e with
  |ret x=>exact hr x s' hR
  |pan x=>exact he x s' hR⟩
/-- What a function comes to, when it changes nothing. -/
structure Pur (c:Cx) (f:FuncId) (xs:List HV) (x:HV):Prop where
 out:HCalls c.P f xs [] fun e s=>e = .ret x∧s=[]
theorem Pur.calls {c:Cx} {f:FuncId} {xs:List HV} {x:HV} (h:Pur c f xs x) (s:HS):HCalls c.P f xs s fun e s'=>e = .ret x∧s'=s:=
 HCalls.use (s:=[]) (t:=s) h.out (by simp) fun e s1 ⟨h1,h2⟩=>⟨h1,by rw [h2];rfl⟩
theorem Pur.call {c:Cx} {f:FuncId} {xs:List HV} {x:HV} (h:Pur c f xs x) {s:HS} {K E:HV→HS→Prop} (hk:K x s):CallWp c f xs s K E:=
 callWp c (h.calls s) (fun y s' ⟨h1,h2⟩=>by cases h1;rw [h2];exact hk) (fun y s' ⟨h1,_⟩=>by cases h1)
theorem Pur.q {c:Cx} {f:FuncId} {xs:List HV} {x:HV} (h:Pur c f xs x) (s:HS):QCall c f xs s x:=⟨h.calls s⟩
theorem br_true {b:Bool} {X Y:Prop} (hb:b=true) (x:X):Br b X Y:=⟨fun _=>x,fun h=>by rw [hb] at h;cases h⟩
theorem br_false {b:Bool} {X Y:Prop} (hb:b=false) (y:Y):Br b X Y:=⟨(fun h=>by rw [hb] at h;cases h),fun _=>y⟩
theorem br_split {b:Bool} {X Y:Prop} (x:b=true→X) (y:b=false→Y):Br b X Y:=⟨x,y⟩
theorem br_dec {p:Prop} [Decidable p] {X Y:Prop} (x:p→X) (y:¬ p→Y):Br (decide p) X Y:=⟨fun h=>x (of_decide_eq_true h),fun h=>y (of_decide_eq_false h)⟩
theorem br_beq {a b:Int} {X Y:Prop} (x:a=b→X) (y:¬ a=b→Y):Br (a == b) X Y:=⟨fun h=>x (by simpa using h),fun h=>y (by simpa using h)⟩
theorem br_bne {a b:Int} {X Y:Prop} (x:¬ a=b→X) (y:a=b→Y):Br (a != b) X Y:=⟨fun h=>x (by simpa using h),fun h=>y (by simpa using h)⟩
theorem br_not {b:Bool} {X Y:Prop} (x:b=false→X) (y:b=true→Y):Br (!b) X Y:=⟨fun h=>x (by simpa using h),fun h=>y (by simpa using h)⟩
theorem br_dec_t {p:Prop} [Decidable p] {X Y:Prop} (h:p) (x:X):Br (decide p) X Y:=br_dec (fun _=>x) (fun n=>absurd h n)
theorem br_dec_f {p:Prop} [Decidable p] {X Y:Prop} (h:¬ p) (y:Y):Br (decide p) X Y:=br_dec (fun n=>absurd n h) (fun _=>y)
theorem br_beq_t {a b:Int} {X Y:Prop} (h:a=b) (x:X):Br (a == b) X Y:=br_beq (fun _=>x) (fun n=>absurd h n)
theorem br_beq_f {a b:Int} {X Y:Prop} (h:¬ a=b) (y:Y):Br (a == b) X Y:=br_beq (fun n=>absurd n h) (fun _=>y)
theorem br_bne_t {a b:Int} {X Y:Prop} (h:¬ a=b) (x:X):Br (a != b) X Y:=br_bne (fun _=>x) (fun n=>absurd n h)
theorem br_bne_f {a b:Int} {X Y:Prop} (h:a=b) (y:Y):Br (a != b) X Y:=br_bne (fun n=>absurd h n) (fun _=>y)
theorem hget_hit (r:Nat) (x:Res) (s:HS):hget ((r,x)::s) r=some x:=by simp [hget_cons]
theorem hget_miss {q r:Nat} (x:Res) (s:HS) (h:q≠r):hget ((q,x)::s) r=hget s r:=by simp [hget_cons,h]
theorem Look.hit {r:Nat} {x:Res} {s:HS} {K:Res→Prop} (h:K x):Look ((r,x)::s) r K:=⟨x,hget_hit r x s,h⟩
theorem Look.miss {q r:Nat} {y:Res} {s:HS} {K:Res→Prop} (hq:q≠r) (h:Look s r K):Look ((q,y)::s) r K:=by
 obtain ⟨x,hx,h⟩:=h
 exact ⟨x,(hget_miss y s hq).trans hx,h⟩
theorem Pur.ask {c:Cx} {f:FuncId} {xs:List HV} {x:HV} (h:Pur c f xs x) {on:Prop} {t:HS} {φ:Prop} {K:HV→Prop} (hφ:on→φ) (hk:K x):QAsk on c f xs t φ K:=⟨x,fun h1=>⟨hφ h1,h.q t⟩,hk⟩
theorem Pur.askC {c:Cx} {f:FuncId} {xs:List HV} {x:HV} (h:Pur c f xs x) {b:Bool} {t:HS} {φ on off:Prop} {K:HV→Prop} (hφ:b=true→φ) (hk:K x):CallC c b f xs t φ K on off:=⟨.inl (h.ask hφ hk)⟩
theorem CallC.two {c:Cx} {b:Bool} {f:FuncId} {xs:List HV} {s:HS} {φ:Prop} {K:HV→Prop} {on off:Prop} (h:Br b (Side φ on) off):CallC c b f xs s φ K on off:=⟨.inr h⟩
theorem hset_hit (r:Nat) (x y:Res) (s:HS):hset ((r,x)::s) r y=(r,y)::s:=by simp [hset_cons]
theorem hset_miss {q r:Nat} (x y:Res) (s:HS) (h:q≠r):hset ((q,x)::s) r y=(q,x)::hset s r y:=by simp [hset_cons,h]
/-- What is left of a round. -/
def hround (R:Fr→HS→Prop) (Q:HExit→Fr→HS→Prop):HExit→Fr→HS→Prop
 |.normal,a,s=>Fin (R a s)
 |e,a,s=>Q e a s
theorem hloop' (c:Cx) {n:Nat} {b:Code} {Q:HExit→Fr→HS→Prop} {a:Fr} {s:HS} {ι:Type} (J:ι→Prop) (F:ι→Fr) (S:ι→HS) (μ:ι→Nat) (i0:ι) (hJ:J i0) (hF:(F i0).Sub a) (hS:Subp (S i0) s)
  (round:∀ i,J i→hwp c n b (hround (fun a s=>∃ i',J i'∧μ i' < μ i∧(F i').Sub a∧Subp (S i') s) Q) (F i) (S i)):SemWp c.P n (.loop b) Q a s:=
 hloop c J F S μ i0 hJ hF hS fun i hi=>by
  have:=round i hi
  have e:(hround (fun a s=>∃ i',J i'∧μ i' < μ i∧(F i').Sub a∧Subp (S i') s) Q)=(fun e a s=>match e with|.normal=>Fin (∃ i',J i'∧μ i' < μ i∧(F i').Sub a∧Subp (S i') s)|e=>Q e a s):=by
   funext e a s
   cases e<;>rfl
  rwa [e] at this
theorem call_ret (c:Cx) {f:FuncId} {xs:List HV} {s1 s2 s:HS} {v:HV} {K E:HV→HS→Prop} (t:HS) (h:HCalls c.P f xs s1 fun e st=>e = .ret v∧st=s2) (p:(t ++ s1).Perm s) (hk:forceL (s2 ++ t) (K v)):CallWp c f xs s K E:=
 callWp c (HCalls.use (t:=t) (R':=fun e st=>e = .ret v∧st=s2 ++ t) h (List.perm_append_comm.trans p) fun e s3 ⟨h1,h2⟩=>⟨h1,by rw [h2]⟩) (fun x s' ⟨h1,h2⟩=>by cases h1;rw [h2];rw [forceL_eq] at hk;exact hk) (fun x s' ⟨h1,_⟩=>by cases h1)
/-- A nil slice as the beginning of a row of one's own. -/
theorem hnil_own (c:Cx) {n:Nat} {code:Code} {Q:HExit→Fr→HS→Prop} {a:Fr} {s:HS} (t sz:Nat) (ha:a.get t=some (.sure,.v (.slice none 0 0))) (h:∀ r,r∉keys s→hwp c n code Q ((t,.sure,.list (.own r 0) sz [])::a) ((r,.tok 0)::s)):SemWp c.P n code Q a s:=
 ⟨fun G w ra hs hf=>by
  let G':Ghost:={ G with top:=fun q=>if q=G.lim then some ⟨0,0,0,0⟩ else G.top q,lim:=G.lim+1}
  have le:G.Le G':=⟨fun _ _ _ e=>e,fun _ _ e=>e,fun q tp e=>by
   have:=hs.lt_top e
   simp only [G']
   rw [if_neg (by omega)]
   exact ⟨tp,e,Nat.le_refl _,fun _=>rfl⟩,rfl⟩
  have post:Post s G w ((G.lim,.tok 0)::s) G' w:=by
   refine ⟨⟨hs.kw,?_,fun r x hx=>?_,fun r hr=>?_,fun b r e=>?_⟩,⟨le,Nat.le_refl _,fun _ _ _=>⟨rfl,rfl,fun _=>rfl⟩,fun r tp e _=>?_,by simp [G'],rfl,rfl,rfl,fun r h0 _ h1 h2 h3=>⟨h1,by simp only [G'];rw [if_neg (by omega)];exact h2,h3⟩⟩,fun r hr=>?_⟩
   ·simp only [keys,List.map_cons,List.nodup_cons]
    exact ⟨fun hm=>by have:=hs.lt_key hm;omega,hs.keys⟩
   ·rcases List.mem_cons.1 hx with hx|hx
    ·cases hx
     exact ⟨⟨0,0,0,0⟩,by simp [G'],rfl,fun h=>by simp at h⟩
    ·exact (hs.holds r x hx).agree hs le (fun b _=>⟨rfl,rfl,fun _=>rfl⟩) (fun q tp e=>by
      have:=hs.lt_top e
      simp only [G']
      rw [if_neg (by omega)];exact e) (fun r h0 h1 h2 h3=>⟨by simp only [G'];omega,h1,by simp only [G'];rw [if_neg (by omega)];exact h2,h3⟩)
   ·simp only [G'] at hr ⊢
    rw [if_neg (by omega)]
    exact hs.fresh r (by omega)
   ·have:=hs.role b r e
    simp only [G'];omega
   ·have:=hs.lt_top e
    simp only [G']
    rw [if_neg (by omega)];exact e
   ·simp only [keys,List.map_cons,List.mem_cons] at hr
    rcases hr with rfl|hr
    ·exact .inr (Nat.le_refl _)
    ·exact .inl hr
  obtain ⟨h1,h2⟩:=hf.slots t _ _ ha
  have hu:=rel_v_eq h2
  have hw:=hwp_sound c n code Q _ _ (h G.lim (fun hm=>by have:=hs.lt_key hm;omega))
  refine hw.lift hs post ⟨hf.size,hf.defers.trans le.df.symm,fun t' g x e=>?_⟩
  simp only [Fr.get] at e
  split at e
  ·rename_i ht
   have:=Nat.eq_of_beq_eq_true ht
   subst this
   cases e
   refine ⟨h1,?_⟩
   show rel G' _ _
   rw [hu]
   exact list_rel_nil ⟨⟨0,0,0,0⟩,by simp [G'],Nat.le_refl _⟩
  ·exact ⟨(hf.slots t' g x e).1,(hf.slots t' g x e).2.mono le⟩⟩
theorem wrap64 {x:Int} (h : -9223372036854775808≤x∧x < 9223372036854775808):IntKind.i64.wrap x=x:=IntWalk.i64_in _ (by omega)
theorem Upd.id {cs:List HV} {off n:Nat} {ys:List HV} {K:List HV→Prop} (h:Upd cs off n ys K):Upd cs off n ys K:=h
theorem Upd.lit {cs:List HV} {off n:Nat} {ys:List HV} {K:List HV→Prop} (h:Nat.ble (off+n) cs.length=true) (k:forceL (cs.take off ++ ys ++ cs.drop (off+n)) K):Upd cs off n ys K:=
 ⟨Nat.le_of_ble_eq_true h,by rw [forceL_eq] at k;exact k⟩
theorem Upd.set {cs:List HV} {off:Nat} {y:HV} {K:List HV→Prop} (h:off < cs.length) (k:K (cs.set off y)):Upd cs off 1 [y] K:=
 ⟨h,by
  have e:=List.set_eq_take_append_cons_drop (l:=cs) (i:=off) (a:=y)
  rw [if_pos h] at e
  rw [List.append_assoc,List.singleton_append,←e];exact k⟩
theorem Grow2.id {A V:Prop} (h:Grow2 A V):Grow2 A V:=h
theorem Grow2.own {A V:Prop} (h:A):Grow2 A V:=⟨.inl h⟩
theorem Grow2.arr {A:Prop} {c:Cx} {t e:TypeId} {z:HV} {F:TypeId→HV→Prop} (h1:sliceElemT c t=some e) (h2:hzero c e=some z) (h3:kdOk z=true) (h:F e z):Grow2 A (∃ e z,sliceElemT c t=some e∧hzero c e=some z∧kdOk z=true∧F e z):=⟨.inr ⟨e,z,h1,h2,h3,h⟩⟩
theorem newCap {n:Nat} {F:Nat→Prop} (h:∀ cap,n≤cap→F cap):∀ cap,n≤cap→F cap:=h
end
end Go.Proofs.Hk

namespace Go.Proofs.Hk
noncomputable section
open Go
/-! The same walk by small rules, so that nothing is worked out twice. -/
/-- What goes on behind an operation that comes to x. -/
structure PutK (n:Nat) (dst:Option Tmp) (g:Tag) (K:Fr→HS→Prop) (a:Fr) (x:HV) (s:HS):Prop where
 out:∃ a',hput n dst g x a=some a'∧K a' s
theorem PutK.mk' {n:Nat} {dst:Option Tmp} {g:Tag} {K:Fr→HS→Prop} {a a':Fr} {x:HV} {s:HS} (h:hput n dst g x a=some a') (k:K a' s):PutK n dst g K a x s:=⟨a',h,k⟩
/-- One operation. -/
structure Stp (c:Cx) (n:Nat) (g:Tag) (dst:Option Tmp) (K:Fr→HS→Prop) (Q:HExit→Fr→HS→Prop) (q:OpRes) (a:Fr) (s:HS):Prop where
 out:match g with
  |.sure=>q.wp s (fun x s'=>PutK n dst .sure K a x s') (fun f xs=>CallWp c f xs s (fun x s'=>PutK n dst .sure K a x s') (fun x s'=>Q (.pan x) a s')) (fun x=>Q (.pan x) a s)
  |.cond b=>q.wpc c s b (fun x=>PutK n dst (.cond b) K a x s) (PutK n dst (.cond false) K a (.v undef) s) (fun x s'=>PutK n dst .sure K a x s')
    (fun f xs=>CallWp c f xs s (fun x s'=>PutK n dst .sure K a x s') (fun x s'=>Q (.pan x) a s')) (fun x=>Q (.pan x) a s)
section
variable {c:Cx} {n:Nat} {dst:Option Tmp} {K:Fr→HS→Prop} {Q:HExit→Fr→HS→Prop} {a a':Fr} {s:HS}
theorem Stp.pure {g:Tag} {x:HV} (h:hput n dst g x a=some a') (k:K a' s):Stp c n g dst K Q (.pure x) a s:=by
 cases g with
 |sure=>exact ⟨⟨a',h,k⟩⟩
 |cond b=>exact ⟨⟨a',h,k⟩⟩
theorem Stp.val {φ:Prop} {x:HV} (h:hput n dst .sure x a=some a') (k:Side φ (K a' s)):Stp c n .sure dst K Q (.val φ x) a s:=⟨⟨k.1,a',h,k.2⟩⟩
theorem Stp.valC {b:Bool} {φ:Prop} {x:HV} (h:hput n dst (.cond b) x a=some a') (k:Side (b=true→φ) (K a' s)):Stp c n (.cond b) dst K Q (.val φ x) a s:=⟨⟨k.1,a',h,k.2⟩⟩
theorem Stp.call {φ:Prop} {f:FuncId} {xs:List HV} (k:Side φ (CallWp c f xs s (fun x s'=>PutK n dst .sure K a x s') (fun x s'=>Q (.pan x) a s'))):Stp c n .sure dst K Q (.call φ f xs) a s:=⟨k⟩
theorem Stp.callC {b:Bool} {φ:Prop} {f:FuncId} {xs:List HV} (k:CallC c b f xs s φ (fun x=>PutK n dst (.cond b) K a x s) (CallWp c f xs s (fun x s'=>PutK n dst .sure K a x s') (fun x s'=>Q (.pan x) a s')) (PutK n dst (.cond false) K a (.v undef) s)):Stp c n (.cond b) dst K Q (.call φ f xs) a s:=⟨k⟩
theorem Stp.pan {φ:Prop} {x:HV} (k:Side φ (Q (.pan x) a s)):Stp c n .sure dst K Q (.pan φ x) a s:=⟨k⟩
theorem Stp.panC {b:Bool} {φ:Prop} {x:HV} (k:Br b (Side φ (Q (.pan x) a s)) (PutK n dst (.cond false) K a (.v undef) s)):Stp c n (.cond b) dst K Q (.pan φ x) a s:=⟨k⟩
theorem Stp.look {g:Tag} {r:Nat} {k:Res→OpRes} (h:Look s r fun x=>Stp c n g dst K Q (k x) a s):Stp c n g dst K Q (.look r k) a s:=by
 obtain ⟨x,hx,h⟩:=h
 cases g with
 |sure=>exact ⟨⟨x,hx,h.out⟩⟩
 |cond b=>exact ⟨⟨x,hx,h.out⟩⟩
theorem Stp.eff {W:(HV→HS→Prop)→Prop} (k:W fun x s'=>PutK n dst .sure K a x s'):Stp c n .sure dst K Q (.eff W) a s:=⟨k⟩
theorem Stp.effC {b:Bool} {W:(HV→HS→Prop)→Prop} (k:Br b (W fun x s'=>PutK n dst .sure K a x s') (PutK n dst (.cond false) K a (.v undef) s)):Stp c n (.cond b) dst K Q (.eff W) a s:=⟨k⟩
end
/-- What is left of a region's operations. -/
structure Ops (c:Cx) (n:Nat) (all:Array Oper) (l:List Oper) (Q:HExit→Fr→HS→Prop) (a:Fr) (s:HS):Prop where
 out:∀ s0 G0 w0,SRel G0 s0 w0→∀ k,all.toList.drop k=l→∀ G w ra,Post s0 G0 w0 s G w→FRel G n a ra→wpOpsY c.P all (Lift n s0 G0 w0 Q) (List.range' k l.length) ra w
theorem Ops.nil {c:Cx} {n:Nat} {all:Array Oper} {Q:HExit→Fr→HS→Prop} {a:Fr} {s:HS} (h:Q .normal a s):Ops c n all [] Q a s:=
 ⟨fun _ _ _ _ _ _ G _ _ hp hf=>⟨.normal,a,s,G,h,trivial,hf,hp⟩⟩
theorem Ops.cons {c:Cx} {n:Nat} {all:Array Oper} {o:Oper} {rest:List Oper} {Q:HExit→Fr→HS→Prop} {a:Fr} {s:HS} {tg:Tag} (hact:active all a o=some tg)
  (h:Stp c n tg o.dst (fun a' s'=>Ops c n all rest Q a' s') Q (hop c o.op a s) a s):Ops c n all (o::rest) Q a s:=by
 refine ⟨fun s0 G0 w0 h0 k hk G w ra hp hf=>?_⟩
 have hko:all[k]? = some o:=by
  have:(all.toList.drop k)[0]? = some o:=by rw [hk];rfl
  rw [List.getElem?_drop] at this
  simpa using this
 have hrest:all.toList.drop (k+1)=rest:=by rw [←List.drop_drop,hk];rfl
 simp only [List.length_cons,List.range'_succ,wpOpsY,hko]
 have next:∀ {g:Tag} {x:HV} {s':HS} {G':Ghost} {w':World} {u:Value},Post s G w s' G' w'→tagRel G' g x u→PutK n o.dst g (fun a' s'=>Ops c n all rest Q a' s') a x s'→wpOpsY c.P all (Lift n s0 G0 w0 Q) (List.range' (k+1) rest.length) (ra.put o.dst u) w':=by
  intro g x s' G' w' u hp' hu ⟨a',ha,hm⟩
  exact hm.out s0 G0 w0 h0 (k+1) hrest G' w' _ (hp.trans h0 hp') ((hf.mono hp'.ext.le).put ha hu)
 have off:PutK n o.dst (.cond false) (fun a' s'=>Ops c n all rest Q a' s') a (.v undef) s→wpOpsY c.P all (Lift n s0 G0 w0 Q) (List.range' (k+1) rest.length) (ra.put o.dst undef) w:=fun hm=>
  next (g:=.cond false) (.refl hp.srel) ⟨(fun e=>by cases e),fun _=>rfl⟩ hm
 have hsem:=hop_ok c hp.srel hf o
 have called:∀ {f:FuncId} {xs:List HV} {vs:Array Value},(execOp ra.eval o).run c.P w = .ok (.enter f vs) w→relVs G xs vs.toList→CallWp c f xs s (fun x s'=>PutK n o.dst .sure (fun a' s'=>Ops c n all rest Q a' s') a x s') (fun x s'=>Q (.pan x) a s')→Oper.wpY c.P o ra w (wpOpsY c.P all (Lift n s0 G0 w0 Q) (List.range' (k+1) rest.length)) (Lift n s0 G0 w0 Q):=by
  intro f xs vs hr hx hc
  unfold Oper.wpY
  rw [hr,Oper.uponY_enter]
  refine (hc.out.out G w vs hp.srel hx).mono fun e w' ⟨he,s',G',hR,hrel,hp'⟩=>?_
  cases he with
  |ret x=>
   cases e<;>first|exact hrel.elim|skip
   exact next (g:=.sure) hp' hrel hR
  |pan x=>
   cases e<;>first|exact hrel.elim|skip
   exact ⟨.pan x,a,s',G',hR,hrel,hf.mono hp'.ext.le,hp.trans h0 hp'⟩
 have h:=h.out
 cases tg with
 |sure=>
  have hw:=active_ok hf hact
  simp only [] at hw h
  rw [hw]
  simp only [if_true]
  refine .inl ?_
  generalize hop c o.op a s=q at h hsem
  induction q with
  |bad=>exact h.elim
  |pure x=>
   obtain ⟨u,w',G',hy,hr,hp'⟩:=hsem
   exact upon_gives hy (next (g:=.sure) hp' hr h)
  |val φ x=>
   obtain ⟨hφ,h⟩:=h
   obtain ⟨u,w',G',hy,hr,hp'⟩:=hsem hφ
   exact upon_gives hy (next (g:=.sure) hp' hr h)
  |call φ f xs=>
   obtain ⟨hφ,h⟩:=h
   obtain ⟨vs,hr,hx⟩:=hsem hφ
   exact called hr hx h
  |pan φ x=>
   obtain ⟨hφ,h⟩:=h
   obtain ⟨u,hr,hu⟩:=hsem hφ
   unfold Oper.wpY
   rw [hr,Oper.uponY_panic]
   exact ⟨.pan _,a,s,G,h,⟨u,rfl,hu⟩,hf,hp⟩
  |eff W=>
   obtain ⟨x,s',hK,u,w',G',hy,hr,hp'⟩:=hsem _ h
   exact upon_gives hy (next (g:=.sure) hp' hr hK)
  |look r k ihq=>
   obtain ⟨x,hx,h⟩:=h
   exact ihq x h (hsem x hx)
 |cond b=>
  have hw:=active_ok hf hact
  simp only [] at hw h
  rw [hw]
  generalize hop c o.op a s=q at h hsem
  induction q with
  |bad=>exact h.elim
  |pure x=>
   obtain ⟨u,w',G',hy,hr,hp'⟩:=hsem
   cases b with
   |true=>exact .inl (upon_gives hy (next (g:=.cond true) hp' ⟨fun _=>hr,(fun e=>by cases e)⟩ h))
   |false=>exact next (g:=.cond false) (.refl hp.srel) ⟨(fun e=>by cases e),fun _=>rfl⟩ h
  |val φ x=>
   obtain ⟨hφ,h⟩:=h
   cases b with
   |true=>
    obtain ⟨u,w',G',hy,hr,hp'⟩:=hsem (hφ rfl)
    exact .inl (upon_gives hy (next (g:=.cond true) hp' ⟨fun _=>hr,(fun e=>by cases e)⟩ h))
   |false=>exact next (g:=.cond false) (.refl hp.srel) ⟨(fun e=>by cases e),fun _=>rfl⟩ h
  |call φ f xs=>
   rcases h with ⟨⟨x,hq,h⟩|h⟩
   ·cases b with
    |true=>
     obtain ⟨hφ,hc⟩:=hq rfl
     obtain ⟨vs,hr,hx⟩:=hsem hφ
     refine .inl ?_
     unfold Oper.wpY
     rw [hr,Oper.uponY_enter]
     refine (hc.out.out G w vs hp.srel hx).mono fun e w' ⟨he,s',G',⟨h1,h2⟩,hrel,hp'⟩=>?_
     subst h1 h2
     cases e<;>first|exact hrel.elim|skip
     exact next (g:=.cond true) hp' ⟨fun _=>hrel,(fun e=>by cases e)⟩ h
    |false=>exact next (g:=.cond false) (.refl hp.srel) ⟨(fun e=>by cases e),fun _=>rfl⟩ h
   ·cases b with
    |true=>
     obtain ⟨hφ,h⟩:=h.1 rfl
     obtain ⟨vs,hr,hx⟩:=hsem hφ
     exact .inl (called hr hx h)
    |false=>exact off (h.2 rfl)
  |pan φ x=>
   cases b with
   |true=>
    obtain ⟨hφ,h⟩:=h.1 rfl
    obtain ⟨u,hr,hu⟩:=hsem hφ
    refine .inl ?_
    unfold Oper.wpY
    rw [hr,Oper.uponY_panic]
    exact ⟨.pan _,a,s,G,h,⟨u,rfl,hu⟩,hf,hp⟩
   |false=>exact off (h.2 rfl)
  |eff W=>
   cases b with
   |true=>
    obtain ⟨x,s',hK,u,w',G',hy,hr,hp'⟩:=hsem _ (h.1 rfl)
    exact .inl (upon_gives hy (next (g:=.sure) hp' hr hK))
   |false=>exact off (h.2 rfl)
  |look r k ihq=>
   obtain ⟨x,hx,h⟩:=h
   exact ihq x h (hsem x hx)
/-! Ends of pieces. -/
def qThen (P:Program) (n:Nat) (y:Code) (Q:HExit→Fr→HS→Prop):HExit→Fr→HS→Prop
 |.normal,a,s=>SemWp P n y Q a s
 |e,a,s=>Q e a s
section
variable {c:Cx} {n:Nat} {x y:Code} {Q:HExit→Fr→HS→Prop} {a:Fr} {s:HS}
theorem sem_seq (h:SemWp c.P n x (qThen c.P n y Q) a s):SemWp c.P n (.seq x y) Q a s:=
 .seq (h.mono fun e a s q=>by cases e<;>exact q)
theorem sem_cond {t:Operand} {b:Bool} (e:ev a t=some (.sure,.v (.bool b))) (h:Br b (SemWp c.P n x Q a s) (SemWp c.P n y Q a s)):SemWp c.P n (.cond t x y) Q a s:=
 ⟨fun G w ra hs hf=>by
  have hb:=rel_v_eq (ev_ok hf e)
  cases b with
  |true=>exact wpB_cond_true hb ((h.1 rfl).out G w ra hs hf)
  |false=>exact wpB_cond_false hb ((h.2 rfl).out G w ra hs hf)⟩
theorem sem_block {id:Nat} (h:SemWp c.P n x (hinBlock id Q) a s):SemWp c.P n (.block id x) Q a s:=.block h
theorem sem_exit {id:Nat} (h:Q (.exit id) a s):SemWp c.P n (.exit id) Q a s:=hwp_sound c n (.exit id) Q a s h
theorem sem_ret (h:Q .ret a s):SemWp c.P n .ret Q a s:=hwp_sound c n .ret Q a s h
theorem sem_skip (h:Q .normal a s):SemWp c.P n .skip Q a s:=hwp_sound c n .skip Q a s h
theorem sem_label {l:Nat} (h:Q .normal a s):SemWp c.P n (.label l) Q a s:=hwp_sound c n (.label l) Q a s h
theorem sem_region {id:Nat} {ops:Array Oper} {l:List Oper} (e:ops.toList=l) (h:Ops c n ops l Q a s):SemWp c.P n (.region id ops false) Q a s:=
 ⟨fun G w ra hs hf=>wpB_region (by
  have:=h.out s G w hs 0 e G w ra (.refl hs) hf
  rw [List.range_eq_range',←Array.length_toList,e]
  exact this)⟩
theorem sem_draw {id:Nat} {ops:Array Oper} (h:DrawReg c.P n id ops Q a s):SemWp c.P n (.region id ops true) Q a s:=h.out
theorem qThen.go (h:SemWp c.P n y Q a s):qThen c.P n y Q .normal a s:=h
theorem qThen.ret (h:Q .ret a s):qThen c.P n y Q .ret a s:=h
theorem qThen.exit {j:Nat} (h:Q (.exit j) a s):qThen c.P n y Q (.exit j) a s:=h
theorem qThen.pan {v:HV} (h:Q (.pan v) a s):qThen c.P n y Q (.pan v) a s:=h
theorem hinBlock.go {id:Nat} (h:Q .normal a s):hinBlock id Q .normal a s:=h
theorem hinBlock.ret {id:Nat} (h:Q .ret a s):hinBlock id Q .ret a s:=h
theorem hinBlock.pan {id:Nat} {v:HV} (h:Q (.pan v) a s):hinBlock id Q (.pan v) a s:=h
theorem hinBlock.here {id j:Nat} (e:Nat.beq j id=true) (h:Q .normal a s):hinBlock id Q (.exit j) a s:=by
 simp only [hinBlock,e];exact h
theorem hinBlock.on {id j:Nat} (e:Nat.beq j id=false) (h:Q (.exit j) a s):hinBlock id Q (.exit j) a s:=by
 simp only [hinBlock,e];exact h
theorem hround.go {R:Fr→HS→Prop} (h:Fin (R a s)):hround R Q .normal a s:=h
theorem hround.ret {R:Fr→HS→Prop} (h:Q .ret a s):hround R Q .ret a s:=h
theorem hround.exit {R:Fr→HS→Prop} {j:Nat} (h:Q (.exit j) a s):hround R Q (.exit j) a s:=h
theorem hround.pan {R:Fr→HS→Prop} {v:HV} (h:Q (.pan v) a s):hround R Q (.pan v) a s:=h
theorem bodyQ.ret {rs:List ResultVar} {R:HEnd→HS→Prop} {x:HV} (e:resH a rs=some [x]) (h:Fin (R (.ret x) s)):bodyQ rs R .ret a s:=by
 simp only [bodyQ,e];exact h
theorem bodyQ.ret2 {rs:List ResultVar} {R:HEnd→HS→Prop} {x y:HV} {l:List HV} (e:resH a rs=some (x::y::l)) (h:Fin (R (.ret (.tup (x::y::l))) s)):bodyQ rs R .ret a s:=by
 simp only [bodyQ,e];exact h
theorem bodyQ.ret0 {rs:List ResultVar} {R:HEnd→HS→Prop} (e:resH a rs=some []) (h:Fin (R (.ret (.tup [])) s)):bodyQ rs R .ret a s:=by
 simp only [bodyQ,e];exact h
theorem bodyQ.go {rs:List ResultVar} {R:HEnd→HS→Prop} (h:bodyQ rs R .ret a s):bodyQ rs R .normal a s:=h
theorem bodyQ.pan {rs:List ResultVar} {R:HEnd→HS→Prop} {v:HV} (h:Fin (R (.pan v) s)):bodyQ rs R (.pan v) a s:=h
end
theorem sem_calls (c:Cx) {f:FuncId} {fn:Func} {code:Code} {args:List HV} {a:Fr} {s:HS} {R:HEnd→HS→Prop} (hf:c.P.funcs[f]? = some fn) (hb:fn.body=some code) (hn:Nat.ble args.length fn.ntmps=true) (ha:initFr args 0=a)
  (h:SemWp c.P fn.ntmps code (bodyQ fn.results.toList R) a s):HCalls c.P f args s R:=hcalls_of c hf hb hn (by rw [ha];exact h)
theorem sem_loop (c:Cx) {n:Nat} {b:Code} {Q:HExit→Fr→HS→Prop} {a:Fr} {s:HS} {ι:Type} (J:ι→Prop) (F:ι→Fr) (S:ι→HS) (μ:ι→Nat) (i0:ι) (hJ:J i0) (hF:(F i0).Sub a) (hS:Subp (S i0) s)
  (round:∀ i,J i→SemWp c.P n b (hround (fun a s=>∃ i',J i'∧μ i' < μ i∧(F i').Sub a∧Subp (S i') s) Q) (F i) (S i)):SemWp c.P n (.loop b) Q a s:=by
 refine SemWp.loop (fun m a s=>∃ i,μ i=m∧J i∧(F i).Sub a∧Subp (S i) s) (μ i0) ⟨i0,rfl,hJ,hF,hS⟩ ?_
 rintro m a s ⟨i,rfl,hJ,hF,hS⟩
 refine SemWp.less hS (SemWp.forget ((round i hJ).mono fun e a s q=>?_) hF)
 cases e with
 |normal=>
  obtain ⟨⟨i',h1,h2,h3,h4⟩⟩:=q
  exact ⟨μ i',h2,i',rfl,h1,h3,h4⟩
 |exit j=>exact q
 |ret=>exact q
 |pan x=>exact q
/-- What a state is with one thing changed. -/
inductive HsetIs:HS→Nat→Res→HS→Prop
 |hit {r:Nat} {x y:Res} {s:HS} : HsetIs ((r,x)::s) r y ((r,y)::s)
 |miss {q r:Nat} {x y:Res} {s s':HS} (h:q≠r) (k:HsetIs s r y s'):HsetIs ((q,x)::s) r y ((q,x)::s')
theorem HsetIs.eq {s s':HS} {r:Nat} {y:Res} (h:HsetIs s r y s'):hset s r y=s':=by
 induction h with
 |hit=>exact hset_hit _ _ _ _
 |miss h _ ih=>rw [hset_miss _ _ _ h,ih]
theorem PutK.set {n:Nat} {dst:Option Tmp} {g:Tag} {K:Fr→HS→Prop} {a:Fr} {x:HV} {s s':HS} {r:Nat} {y:Res} (h:HsetIs s r y s') (k:PutK n dst g K a x s'):PutK n dst g K a x (hset s r y):=h.eq ▸ k
theorem sem_nil_own (c:Cx) {n:Nat} {code:Code} {Q:HExit→Fr→HS→Prop} {a:Fr} {s:HS} (t sz:Nat) (ha:a.get t=some (.sure,.v (.slice none 0 0))) (h:∀ r,r∉keys s→SemWp c.P n code Q ((t,.sure,.list (.own r 0) sz [])::a) ((r,.tok 0)::s)):SemWp c.P n code Q a s:=
 ⟨fun G w ra hs hf=>by
  let G':Ghost:={ G with top:=fun q=>if q=G.lim then some ⟨0,0,0,0⟩ else G.top q,lim:=G.lim+1}
  have le:G.Le G':=⟨fun _ _ _ e=>e,fun _ _ e=>e,fun q tp e=>by
   have:=hs.lt_top e
   simp only [G']
   rw [if_neg (by omega)]
   exact ⟨tp,e,Nat.le_refl _,fun _=>rfl⟩,rfl⟩
  have post:Post s G w ((G.lim,.tok 0)::s) G' w:=by
   refine ⟨⟨hs.kw,?_,fun r x hx=>?_,fun r hr=>?_,fun b r e=>?_⟩,⟨le,Nat.le_refl _,fun _ _ _=>⟨rfl,rfl,fun _=>rfl⟩,fun r tp e _=>?_,by simp [G'],rfl,rfl,rfl,fun r h0 _ h1 h2 h3=>⟨h1,by simp only [G'];rw [if_neg (by omega)];exact h2,h3⟩⟩,fun r hr=>?_⟩
   ·simp only [keys,List.map_cons,List.nodup_cons]
    exact ⟨fun hm=>by have:=hs.lt_key hm;omega,hs.keys⟩
   ·rcases List.mem_cons.1 hx with hx|hx
    ·cases hx
     exact ⟨⟨0,0,0,0⟩,by simp [G'],rfl,fun h=>by simp at h⟩
    ·exact (hs.holds r x hx).agree hs le (fun b _=>⟨rfl,rfl,fun _=>rfl⟩) (fun q tp e=>by
      have:=hs.lt_top e
      simp only [G']
      rw [if_neg (by omega)];exact e) (fun r h0 h1 h2 h3=>⟨by simp only [G'];omega,h1,by simp only [G'];rw [if_neg (by omega)];exact h2,h3⟩)
   ·simp only [G'] at hr ⊢
    rw [if_neg (by omega)]
    exact hs.fresh r (by omega)
   ·have:=hs.role b r e
    simp only [G'];omega
   ·have:=hs.lt_top e
    simp only [G']
    rw [if_neg (by omega)];exact e
   ·simp only [keys,List.map_cons,List.mem_cons] at hr
    rcases hr with rfl|hr
    ·exact .inr (Nat.le_refl _)
    ·exact .inl hr
  obtain ⟨h1,h2⟩:=hf.slots t _ _ ha
  have hu:=rel_v_eq h2
  have hw:=h G.lim (fun hm=>by have:=hs.lt_key hm;omega)
  refine hw.lift hs post ⟨hf.size,hf.defers.trans le.df.symm,fun t' g x e=>?_⟩
  simp only [Fr.get] at e
  split at e
  ·rename_i ht
   have:=Nat.eq_of_beq_eq_true ht
   subst this
   cases e
   refine ⟨h1,?_⟩
   show rel G' _ _
   rw [hu]
   exact list_rel_nil ⟨⟨0,0,0,0⟩,by simp [G'],Nat.le_refl _⟩
  ·exact ⟨(hf.slots t' g x e).1,(hf.slots t' g x e).2.mono le⟩⟩
theorem Stp.id {c:Cx} {n:Nat} {g:Tag} {dst:Option Tmp} {K:Fr→HS→Prop} {Q:HExit→Fr→HS→Prop} {q:OpRes} {a:Fr} {s:HS} (h:Stp c n g dst K Q q a s):Stp c n g dst K Q q a s:=h
theorem Ops.id {c:Cx} {n:Nat} {all:Array Oper} {l:List Oper} {Q:HExit→Fr→HS→Prop} {a:Fr} {s:HS} (h:Ops c n all l Q a s):Ops c n all l Q a s:=h
theorem PutK.id {n:Nat} {dst:Option Tmp} {g:Tag} {K:Fr→HS→Prop} {a:Fr} {x:HV} {s:HS} (h:PutK n dst g K a x s):PutK n dst g K a x s:=h
theorem SemWp.id {P:Program} {n:Nat} {x:Code} {Q:HExit→Fr→HS→Prop} {a:Fr} {s:HS} (h:SemWp P n x Q a s):SemWp P n x Q a s:=h
theorem Side.id {φ K:Prop} (h:Side φ K):Side φ K:=h
theorem Br.id {b:Bool} {X Y:Prop} (h:Br b X Y):Br b X Y:=h
theorem Look.id {s:HS} {r:Nat} {K:Res→Prop} (h:Look s r K):Look s r K:=h
theorem CallWp.id {c:Cx} {f:FuncId} {xs:List HV} {s:HS} {K E:HV→HS→Prop} (h:CallWp c f xs s K E):CallWp c f xs s K E:=h
theorem QAsk.id {on:Prop} {c:Cx} {f:FuncId} {xs:List HV} {t:HS} {φ:Prop} {K:HV→Prop} (h:QAsk on c f xs t φ K):QAsk on c f xs t φ K:=h
theorem CallC.id {c:Cx} {b:Bool} {f:FuncId} {xs:List HV} {s:HS} {φ:Prop} {K:HV→Prop} {on off:Prop} (h:CallC c b f xs s φ K on off):CallC c b f xs s φ K on off:=h
theorem qThen.id {P:Program} {n:Nat} {y:Code} {Q:HExit→Fr→HS→Prop} {e:HExit} {a:Fr} {s:HS} (h:qThen P n y Q e a s):qThen P n y Q e a s:=h
theorem hinBlock.id {i:Nat} {Q:HExit→Fr→HS→Prop} {e:HExit} {a:Fr} {s:HS} (h:hinBlock i Q e a s):hinBlock i Q e a s:=h
theorem hround.id {R:Fr→HS→Prop} {Q:HExit→Fr→HS→Prop} {e:HExit} {a:Fr} {s:HS} (h:hround R Q e a s):hround R Q e a s:=h
theorem bodyQ.id {rs:List ResultVar} {R:HEnd→HS→Prop} {e:HExit} {a:Fr} {s:HS} (h:bodyQ rs R e a s):bodyQ rs R e a s:=h
end
end Go.Proofs.Hk

namespace Go.Proofs.Hk
noncomputable section
open Go
/-! Drawn regions by small rules. -/
structure DOps (c:Cx) (n:Nat) (all:Array Oper) (t:HS) (E:List Nat) (Q:HExit→Fr→HS→Prop) (l:List Oper) (k:Nat) (a:Fr) (m:HS):Prop where
 out:drawWp c n all t E Q l k a m
/-- What goes on behind. -/
structure PutD (n:Nat) (dst:Option Tmp) (g:Tag) (K:Fr→Prop) (a:Fr) (x:HV):Prop where
 out:∃ a',hput n dst g x a=some a'∧K a'
structure DStp (c:Cx) (n:Nat) (t:HS) (g:Tag) (dst:Option Tmp) (K:Fr→Prop) (q:OpRes) (a:Fr):Prop where
 out:q.quiet c t g fun x=>PutD n dst g K a x
structure TStp (c:Cx) (n:Nat) (m t:HS) (dst:Option Tmp) (K:Fr→HS→Prop) (q:OpRes) (a:Fr):Prop where
 out:q.turns c m t fun x m'=>PutD n dst .sure (fun a'=>K a' m') a x
theorem quiet_mono {c:Cx} {t:HS} {g:Tag} {K K':HV→Prop} (h:∀ x,K x→K' x):∀ {q:OpRes},q.quiet c t g K→q.quiet c t g K'
 |.bad,k=>by
  cases g with
  |sure=>exact k
  |cond b=>obtain ⟨h1,x,hx⟩:=k;exact ⟨h1,x,h x hx⟩
 |.pure x,k=>h x k
 |.val φ x,k=>by
  cases g with
  |sure=>exact ⟨k.1,h x k.2⟩
  |cond b=>exact ⟨k.1,h x k.2⟩
 |.call φ f xs,k=>by
  cases g with
  |sure=>obtain ⟨x,h1,h2⟩:=k;exact ⟨x,h1,h x h2⟩
  |cond b=>obtain ⟨x,h1,h2⟩:=k;exact ⟨x,h1,h x h2⟩
 |.pan φ x,k=>k
 |.eff W,k=>k
 |.look r q,k=>by obtain ⟨x,h1,h2⟩:=k;exact ⟨x,h1,quiet_mono h h2⟩
theorem turns_mono {c:Cx} {m t:HS} {K K':HV→HS→Prop} (h:∀ x m,K x m→K' x m):∀ {q:OpRes},q.turns c m t K→q.turns c m t K'
 |.bad,k=>k
 |.pure x,k=>h x m k
 |.val φ x,k=>⟨k.1,h x m k.2⟩
 |.call φ f xs,k=>by obtain ⟨x,m',h1,h2⟩:=k;exact ⟨x,m',h1,h x m' h2⟩
 |.pan φ x,k=>k
 |.eff W,k=>by obtain ⟨x,m',h1,h2⟩:=k;exact ⟨x,m',h1,h x m' h2⟩
 |.look r q,k=>by obtain ⟨x,h1,h2⟩:=k;exact ⟨x,h1,turns_mono h h2⟩
theorem DOps.nil {c:Cx} {n:Nat} {all:Array Oper} {t s:HS} {E:List Nat} {Q:HExit→Fr→HS→Prop} {k:Nat} {a:Fr} {m:HS} (e:m ++ t=s) (h:Q .normal a s):DOps c n all t E Q [] k a m:=
 ⟨by simp only [drawWp,forceL_eq,e];exact h⟩
/-! What an operation does not look at does not matter. -/
theorem ev_only {S:List Tmp} {a:Fr} {x:Operand} (h:∀ t,x = .tmp t→memN t S=true):ev (Fr.only S a) x=ev a x:=by
 cases x with
 |tmp t=>simp only [ev,only_get];rw [if_pos (h t rfl)]
 |_=>rfl
theorem arg_only {S:List Tmp} {a:Fr} {x:Operand} {k:HV→OpRes} (h:∀ t,x = .tmp t→memN t S=true):arg (Fr.only S a) x k=arg a x k:=by
 simp only [arg,ev_only h]
theorem argsM_only {S:List Tmp} {a:Fr} : ∀ {xs:List Operand} {k:List HV→OpRes},(∀ x∈xs,∀ t,x = .tmp t→memN t S=true)→argsM (Fr.only S a) xs k=argsM a xs k
 |[],k,_=>rfl
 |x::xs,k,h=>by
  simp only [argsM]
  rw [arg_only (h x (by simp))]
  congr 1
  funext v
  exact argsM_only fun y hy=>h y (by simp [hy])
theorem argO_only {S:List Tmp} {a:Fr} {x:Option Operand} {k:Option HV→OpRes} (h:∀ y,x=some y→∀ t,y = .tmp t→memN t S=true):argO (Fr.only S a) x k=argO a x k:=by
 cases x with
 |none=>rfl
 |some x=>exact arg_only (h x rfl)
theorem hop_only (c:Cx) {S:List Tmp} {a:Fr} {s:HS} {o:Op} (h:∀ x∈o.operands,∀ t,x = .tmp t→memN t S=true):hop c o (Fr.only S a) s=hop c o a s:=by
 cases o<;>simp only [Op.operands,Call.operands] at h<;>simp only [hop]
 case call d=>
  obtain ⟨cal,args,ts⟩:=d
  cases cal<;>simp only [hop,Op.operands,Call.operands] at h ⊢
  case value f=>
   rw [arg_only (h f (by simp))]
   congr 1;funext v
   exact argsM_only fun y hy=>h y (by simp at hy;simp [hy])
  case builtin b=>exact argsM_only fun y hy=>h y (by simp at hy;simp [hy])
  case invoke r m=>
   rw [arg_only (h r (by simp))]
   congr 1;funext v
   exact argsM_only fun y hy=>h y (by simp at hy;simp [hy])
 case pick x y z=>
  rw [arg_only (h x (by simp)),ev_only (h y (by simp)),ev_only (h z (by simp))]
 case build t ps=>exact argsM_only fun y hy=>h y (by simpa using hy)
 case buildSlice t n ps=>exact argsM_only fun y hy=>h y (by simpa using hy)
 case slice t x lo hi mx=>
  rw [arg_only (h x (by simp))]
  congr 1;funext v
  rw [argO_only fun y hy=>h y (by subst hy;simp)]
  congr 1;funext v
  rw [argO_only fun y hy=>h y (by subst hy;simp)]
  congr 1;funext v
  rw [argO_only fun y hy=>h y (by subst hy;simp)]
 case makeSlice t x y=>
  rw [arg_only (h x (by simp))];congr 1;funext v;exact arg_only (h y (by simp))
 case binOp op t x y yt=>
  split
  ·exact arg_only (h x (by simp))
  ·rw [arg_only (h x (by simp))];congr 1;funext v;exact arg_only (h y (by simp))
 case makeMap t r=>
  cases r with
  |none=>rfl
  |some x=>exact arg_only (h _ (by simp))
 case insert t m k x=>
  rw [arg_only (h m (by simp))];congr 1;funext v
  rw [arg_only (h k (by simp))];congr 1;funext v
  exact arg_only (h x (by simp))
 case mapUpdate t m k x=>
  rw [arg_only (h m (by simp))];congr 1;funext v
  rw [arg_only (h k (by simp))];congr 1;funext v
  exact arg_only (h x (by simp))
 case makeFunc f fi ca=>
  rw [argsM_only fun y hy=>h y (by simp at hy;simp [hy])]
  congr 1;funext v
  exact argsM_only fun y hy=>h y (by simp at hy;simp [hy])
 all_goals first
  |rfl
  |exact arg_only (h _ (by simp))
  |(rw [arg_only (h _ (by simp))];congr 1;funext v;exact arg_only (h _ (by simp)))
  |skip
theorem looksAt_op {ops:Array Oper} {o:Oper} : ∀ x∈o.op.operands,∀ t,x=Operand.tmp t→memN t (o.looksAt ops)=true:=by
 intro x hx t ht
 subst ht
 rw [memN_iff]
 unfold Oper.looksAt
 refine List.mem_append_left _ (List.mem_filterMap.2 ⟨_,by simpa using hx,rfl⟩)
theorem active_only {all:Array Oper} {a:Fr} {o:Oper} : active all (Fr.only (o.looksAt all) a) o=active all a o:=by
 unfold active
 split
 ·rfl
 ·rename_i j want hg
  split
  ·rfl
  ·rename_i oj hj
   split
   ·rfl
   ·rename_i d hd
    rw [only_get,if_pos]
    rw [memN_iff]
    unfold Oper.looksAt
    refine List.mem_append_right _ ?_
    rw [hg]
    simp [hj,hd]
theorem DOps.cons {c:Cx} {n:Nat} {all:Array Oper} {t:HS} {E:List Nat} {Q:HExit→Fr→HS→Prop} {o:Oper} {l:List Oper} {k:Nat} {a:Fr} {m:HS} {tg:Tag} (hact:active all a o=some tg) (hE:memN k E=false)
  (h:DStp c n t tg o.dst (fun a'=>DOps c n all t E Q l (k+1) a' m) (hop c o.op a t) a):DOps c n all t E Q (o::l) k a m:=by
 constructor
 simp only [drawWp,active_only,hact,hE,hop_only c looksAt_op]
 refine quiet_mono (fun x hx=>?_) h.out
 obtain ⟨a',e,hk⟩:=hx
 rw [e]
 exact hk.out
theorem DOps.turn {c:Cx} {n:Nat} {all:Array Oper} {t s:HS} {E:List Nat} {Q:HExit→Fr→HS→Prop} {o:Oper} {l:List Oper} {k:Nat} {a:Fr} {m:HS} (hact:active all a o=some .sure) (hE:memN k E=true) (e:m ++ t=s)
  (h:TStp c n m t o.dst (fun a' m'=>DOps c n all t E Q l (k+1) a' m') (hop c o.op a s) a):DOps c n all t E Q (o::l) k a m:=by
 subst e
 constructor
 simp only [drawWp,active_only,hact,hE,hop_only c looksAt_op]
 refine .inl (turns_mono (fun x m' hx=>?_) h.out)
 obtain ⟨a',e,hk⟩:=hx
 rw [e]
 exact hk.out
/-- An alloc, by a name that was kept free. -/
theorem DOps.alloc {c:Cx} {n:Nat} {all:Array Oper} {t:HS} {E:List Nat} {Q:HExit→Fr→HS→Prop} {o:Oper} {l:List Oper} {k r:Nat} {a a':Fr} {m0:HS} {tt:TypeId} {z:HV} {zs:List HV} (hact:active all a o=some .sure) (hE:memN k E=true) (ho:o.op = .alloc tt)
  (hz:hzero c tt=some z) (hk:kdOk z=true) (hs:z.cells=zs) (hp:hput n o.dst .sure (.ptr r 0) a=some a') (h:DOps c n all t E Q l (k+1) a' ((r,.cells zs tt)::m0)):DOps c n all t E Q (o::l) k a ((r,.void)::m0):=by
 subst hs
 constructor
 simp only [drawWp,active_only,hact,hE]
 exact .inr ⟨tt,z,r,m0,a',ho,hz,hk,rfl,hp,h.out⟩
theorem drawQ' (c:Cx) {n id:Nat} {ops:Array Oper} {l:List Oper} {Q:HExit→Fr→HS→Prop} {a:Fr} {s:HS} (hB:lexEB ops []=true) (e:ops.toList=l) (h:DOps c n ops s [] Q l 0 a []):DrawReg c.P n id ops Q a s:=
 drawQ c hB (by rw [e];exact h.out)
theorem drawE' (c:Cx) {n id:Nat} {ops:Array Oper} {l:List Oper} {Q:HExit→Fr→HS→Prop} {a:Fr} {s:HS} (m t:HS) (E:List Nat) (hp:(m ++ t).Perm s) (hB:lexEB ops E=true) (e:ops.toList=l) (h:DOps c n ops t E Q l 0 a m):DrawReg c.P n id ops Q a s:=
 drawReg c m t E hp hB (by rw [e];exact h.out)
section
variable {c:Cx} {n:Nat} {t:HS} {g:Tag} {dst:Option Tmp} {K:Fr→Prop} {a a':Fr}
theorem DStp.pure {x:HV} (h:hput n dst g x a=some a') (k:K a'):DStp c n t g dst K (.pure x) a:=⟨⟨a',h,k⟩⟩
theorem DStp.dead (h:hput n dst (.cond false) (.v (.bool false)) a=some a') (k:K a'):DStp c n t (.cond false) dst K .bad a:=⟨⟨rfl,_,a',h,k⟩⟩
theorem DStp.val {φ:Prop} {x:HV} (h:hput n dst .sure x a=some a') (k:Side φ (K a')):DStp c n t .sure dst K (.val φ x) a:=⟨⟨k.1,a',h,k.2⟩⟩
theorem DStp.valC {b:Bool} {φ:Prop} {x:HV} (h:hput n dst (.cond b) x a=some a') (k:Side (b=true→φ) (K a')):DStp c n t (.cond b) dst K (.val φ x) a:=⟨⟨k.1,a',h,k.2⟩⟩
theorem DStp.call {φ:Prop} {f:FuncId} {xs:List HV} (k:QAsk True c f xs t φ (fun x=>PutD n dst .sure K a x)):DStp c n t .sure dst K (.call φ f xs) a:=⟨k⟩
theorem DStp.callC {b:Bool} {φ:Prop} {f:FuncId} {xs:List HV} (k:QAsk (b=true) c f xs t φ (fun x=>PutD n dst (.cond b) K a x)):DStp c n t (.cond b) dst K (.call φ f xs) a:=⟨k⟩
theorem DStp.look {r:Nat} {k:Res→OpRes} (h:Look t r fun x=>DStp c n t g dst K (k x) a):DStp c n t g dst K (.look r k) a:=by
 obtain ⟨x,hx,h⟩:=h
 exact ⟨⟨x,hx,h.out⟩⟩
theorem PutD.mk' {x:HV} (h:hput n dst g x a=some a') (k:K a'):PutD n dst g K a x:=⟨a',h,k⟩
end
section
variable {c:Cx} {n:Nat} {m t:HS} {dst:Option Tmp} {K:Fr→HS→Prop} {a:Fr}
theorem TStp.look {r:Nat} {k:Res→OpRes} (h:Look (m ++ t) r fun x=>TStp c n m t dst K (k x) a):TStp c n m t dst K (.look r k) a:=by
 obtain ⟨x,hx,h⟩:=h
 exact ⟨⟨x,hx,h.out⟩⟩
theorem TStp.pure {x:HV} (k:PutD n dst .sure (fun a'=>K a' m) a x):TStp c n m t dst K (.pure x) a:=⟨k⟩
theorem TStp.val {φ:Prop} {x:HV} (k:Side φ (PutD n dst .sure (fun a'=>K a' m) a x)):TStp c n m t dst K (.val φ x) a:=⟨k⟩
theorem TStp.eff {W:(HV→HS→Prop)→Prop} {x:HV} (m':HS) (hW:W fun y s'=>y=x∧s'=m' ++ t) (k:PutD n dst .sure (fun a'=>K a' m') a x):TStp c n m t dst K (.eff W) a:=⟨⟨x,m',hW,k⟩⟩
theorem TStp.call {φ:Prop} {f:FuncId} {xs:List HV} {x:HV} (m':HS) (hφ:φ) (h:HCalls c.P f xs (m ++ t) fun e s1=>e = .ret x∧s1=m' ++ t) (k:PutD n dst .sure (fun a'=>K a' m') a x):TStp c n m t dst K (.call φ f xs) a:=⟨⟨x,m',⟨hφ,⟨h⟩⟩,k⟩⟩
end
/-! Sums that stay within bounds. -/
theorem Stp.pureW {c:Cx} {n:Nat} {g:Tag} {dst:Option Tmp} {K:Fr→HS→Prop} {Q:HExit→Fr→HS→Prop} {a a':Fr} {s:HS} {x y:Int} (hw:IntKind.i64.wrap x=y) (h:hput n dst g (.v (.int .i64 y)) a=some a') (k:K a' s):Stp c n g dst K Q (.pure (.v (.int .i64 (IntKind.i64.wrap x)))) a s:=by
 subst hw;exact Stp.pure h k
theorem DStp.pureW {c:Cx} {n:Nat} {t:HS} {g:Tag} {dst:Option Tmp} {K:Fr→Prop} {a a':Fr} {x y:Int} (hw:IntKind.i64.wrap x=y) (h:hput n dst g (.v (.int .i64 y)) a=some a') (k:K a'):DStp c n t g dst K (.pure (.v (.int .i64 (IntKind.i64.wrap x)))) a:=by
 subst hw;exact DStp.pure h k
theorem DOps.id {c:Cx} {n:Nat} {all:Array Oper} {t:HS} {E:List Nat} {Q:HExit→Fr→HS→Prop} {l:List Oper} {k:Nat} {a:Fr} {m:HS} (h:DOps c n all t E Q l k a m):DOps c n all t E Q l k a m:=h
theorem DStp.id {c:Cx} {n:Nat} {t:HS} {g:Tag} {dst:Option Tmp} {K:Fr→Prop} {q:OpRes} {a:Fr} (h:DStp c n t g dst K q a):DStp c n t g dst K q a:=h
theorem TStp.id {c:Cx} {n:Nat} {m t:HS} {dst:Option Tmp} {K:Fr→HS→Prop} {q:OpRes} {a:Fr} (h:TStp c n m t dst K q a):TStp c n m t dst K q a:=h
theorem PutD.id {n:Nat} {dst:Option Tmp} {g:Tag} {K:Fr→Prop} {a:Fr} {x:HV} (h:PutD n dst g K a x):PutD n dst g K a x:=h
theorem DrawReg.id {P:Program} {n id:Nat} {ops:Array Oper} {Q:HExit→Fr→HS→Prop} {a:Fr} {s:HS} (h:DrawReg P n id ops Q a s):DrawReg P n id ops Q a s:=h
/-! Names that come. -/
structure NewN (s:HS) (F:Nat→Prop):Prop where
 out:∀ r,r∉keys s→F r
/-! Contracts, with what is left lying. -/
theorem Pur.of {c:Cx} {f:FuncId} {xs:List HV} {x:HV} (h:HCalls c.P f xs [] fun e _=>e = .ret x):Pur c f xs x:=
 ⟨HCalls.weaken h fun e s1 he=>⟨e,[],(by subst he;exact .ret (.refl _)),Subp.nil _,he,rfl⟩⟩
theorem Pur.ofW {c:Cx} {f:FuncId} {xs:List HV} {x:HV} (h:HCalls c.P f xs [] fun e _=>∃ y,e = .ret y∧Weaker y x):Pur c f xs x:=
 ⟨HCalls.weaken h fun e s1 ⟨y,he,hw⟩=>⟨.ret x,[],(by subst he;exact .ret hw),Subp.nil _,rfl,rfl⟩⟩
theorem HCalls.less {P:Program} {f:FuncId} {args:List HV} {s s2:HS} {x:HV} (h:HCalls P f args s fun e st=>e = .ret x∧Subp s2 st):HCalls P f args s fun e st=>e = .ret x∧st=s2:=
 HCalls.weaken h fun e s1 ⟨he,hs⟩=>⟨e,s2,(by subst he;exact .ret (.refl _)),hs,he,rfl⟩
theorem HCalls.lessW {P:Program} {f:FuncId} {args:List HV} {s s2:HS} {x:HV} (h:HCalls P f args s fun e st=>∃ y,e = .ret y∧Weaker y x∧Subp s2 st):HCalls P f args s fun e st=>e = .ret x∧st=s2:=
 HCalls.weaken h fun e s1 ⟨y,he,hw,hs⟩=>⟨.ret x,s2,(by subst he;exact .ret hw),hs,rfl,rfl⟩
end
end Go.Proofs.Hk

set_option linter.unusedVariables false
namespace Go.Proofs.Hk
noncomputable section
open Go
/-! What can be closed at once. -/
theorem Side.auto {φ K:Prop} (k:K) (h:φ:=by
  first
  |exact True.intro
  |exact rfl
  |exact fun h=>h
  |exact fun h=>absurd h Bool.false_ne_true
  |omega
  |assumption
  |exact fun h=>⟨h,rfl⟩
  |(intro h;rw [h];done)
  |(intro h;rw [h];rfl)
  |exact fun h=>⟨h,h⟩
  |exact fun h=>⟨h,h,rfl⟩
  |(intros;(repeat' apply And.intro)<;>first|exact rfl|assumption|omega)
  |(intros;(try simp only [Bool.and_eq_true,Bool.or_eq_true,Bool.not_eq_true',Bool.and_eq_false_iff,Bool.or_eq_false_iff,decide_eq_true_eq,decide_eq_false_iff_not,beq_iff_eq,bne_iff_ne,beq_eq_false_iff_ne,bne_eq_false_iff_eq,ne_eq,List.length_map,List.length_append,List.length_cons,List.length_nil,List.length_replicate,List.length_take,List.length_drop,List.length_range,ByteArray.size_extract,ByteArray.size_append,Int.toNat_natCast,Nat.cast_ofNat_Int] at *);(try simp (disch:=omega) only [wrap64] at *);(repeat' apply And.intro)<;>first|exact rfl|assumption|omega)
  |(intros;simp_all;done)
  |(intros;simp_all;omega)):Side φ K:=⟨h,k⟩
inductive HGet:HS→Nat→Res→Prop
 |hit {r:Nat} {x:Res} {s:HS} : HGet ((r,x)::s) r x
 |miss {q r:Nat} {x y:Res} {s:HS} (h:q≠r) (k:HGet s r x):HGet ((q,y)::s) r x
theorem HGet.eq {s:HS} {r:Nat} {x:Res} (h:HGet s r x):hget s r=some x:=by
 induction h with
 |hit=>exact hget_hit _ _ _
 |miss h _ ih=>rw [hget_miss _ _ h,ih]
theorem Look.auto {s:HS} {r:Nat} {x:Res} {K:Res→Prop} (k:K x) (h:HGet s r x):Look s r K:=⟨x,h.eq,k⟩
/-- A part of a state is taken out. -/
inductive HPick:HS→Nat→Res→HS→Prop
 |hit {r:Nat} {x:Res} {s:HS} : HPick ((r,x)::s) r x s
 |miss {r:Nat} {x:Res} {y:Nat × Res} {s t:HS} (k:HPick s r x t):HPick (y::s) r x (y::t)
inductive HTake:HS→HS→HS→Prop
 |nil {s:HS} : HTake s [] s
 |cons {s s' t l:HS} {r:Nat} {x:Res} (h:HPick s r x s') (k:HTake s' l t):HTake s ((r,x)::l) t
theorem HPick.perm {s t:HS} {r:Nat} {x:Res} (h:HPick s r x t):((r,x)::t).Perm s:=by
 induction h with
 |hit=>exact .refl _
 |miss _ ih=>exact (List.Perm.swap _ _ _).trans (ih.cons _)
theorem HTake.perm {s l t:HS} (h:HTake s l t):(l ++ t).Perm s:=by
 induction h with
 |nil=>exact .refl _
 |cons h _ ih=>exact (ih.cons _).trans h.perm
theorem HTake.subp {s l t:HS} (h:HTake s l t):Subp l s:=⟨l ++ t,h.perm,List.sublist_append_left l t⟩
theorem Subp.take {s l:HS} {t:HS} (h:HTake s l t):Subp l s:=h.subp
theorem callT (c:Cx) {f:FuncId} {xs:List HV} {s1 s2 s t:HS} {v:HV} {K E:HV→HS→Prop} (h:HCalls c.P f xs s1 fun e st=>e = .ret v∧st=s2) (p:HTake s s1 t) (hk:forceL (s2 ++ t) (K v)):CallWp c f xs s K E:=
 call_ret c t h (List.perm_append_comm.trans p.perm) hk
theorem newN {s:HS} {F:Nat→Prop} (h:∀ r,r∉keys s→F r):∀ r,r∉keys s→F r:=h
theorem Pur.askH {c:Cx} {f:FuncId} {xs:List HV} {x:HV} {on:Prop} {t:HS} {φ:Prop} {K:HV→Prop} (h:on→Pur c f xs x) (hφ:on→φ) (hk:K x):QAsk on c f xs t φ K:=⟨x,fun h1=>⟨hφ h1,(h h1).q t⟩,hk⟩
theorem Pur.askCH {c:Cx} {f:FuncId} {xs:List HV} {x:HV} {b:Bool} {t:HS} {φ on off:Prop} {K:HV→Prop} (h:b=true→Pur c f xs x) (hφ:b=true→φ) (hk:K x):CallC c b f xs t φ K on off:=⟨.inl (Pur.askH h hφ hk)⟩
theorem Sub.auto {t:Nat} {g:Tag} {x y:HV} {a b:Fr} (k:Fr.Sub a b) (h:b.get t=some (g,x):=by rfl) (hy:x=y:=by first|rfl|assumption|omega|(simp;done)|(simp;rfl)|(simp;omega)):Fr.Sub ((t,g,y)::a) b:=Sub.cons h hy k
/-! Comparisons that are decided. -/
section
variable {c:Cx} {n:Nat} {g:Tag} {dst:Option Tmp} {K:Fr→HS→Prop} {Q:HExit→Fr→HS→Prop} {a a':Fr} {s:HS}
theorem Stp.isDec {p:Prop} [Decidable p] (k:Stp c n g dst K Q (.pure (.v (.bool (decide p)))) a s):Stp c n g dst K Q (.pure (.v (.bool (decide p)))) a s:=k
theorem Stp.isEq {x y:Int} (k:Stp c n g dst K Q (.pure (.v (.bool (x == y)))) a s):Stp c n g dst K Q (.pure (.v (.bool (x == y)))) a s:=k
theorem Stp.isNe {x y:Int} (k:Stp c n g dst K Q (.pure (.v (.bool (x != y)))) a s):Stp c n g dst K Q (.pure (.v (.bool (x != y)))) a s:=k
theorem Stp.decT {p:Prop} [Decidable p] (k:Stp c n g dst K Q (.pure (.v (.bool (true)))) a s) (hp:p:=by omega):Stp c n g dst K Q (.pure (.v (.bool (decide p)))) a s:=by rw [decide_eq_true hp];exact k
theorem Stp.decF {p:Prop} [Decidable p] (k:Stp c n g dst K Q (.pure (.v (.bool (false)))) a s) (hp:¬ p:=by omega):Stp c n g dst K Q (.pure (.v (.bool (decide p)))) a s:=by rw [decide_eq_false hp];exact k
theorem Stp.eqT {x y:Int} (k:Stp c n g dst K Q (.pure (.v (.bool (true)))) a s) (hp:x=y:=by omega):Stp c n g dst K Q (.pure (.v (.bool (x == y)))) a s:=by rw [beq_iff_eq.2 hp];exact k
theorem Stp.eqF {x y:Int} (k:Stp c n g dst K Q (.pure (.v (.bool (false)))) a s) (hp:¬ x=y:=by omega):Stp c n g dst K Q (.pure (.v (.bool (x == y)))) a s:=by rw [beq_eq_false_iff_ne.2 hp];exact k
theorem Stp.neT {x y:Int} (k:Stp c n g dst K Q (.pure (.v (.bool (true)))) a s) (hp:¬ x=y:=by omega):Stp c n g dst K Q (.pure (.v (.bool (x != y)))) a s:=by rw [bne_iff_ne.2 hp];exact k
theorem Stp.neF {x y:Int} (k:Stp c n g dst K Q (.pure (.v (.bool (false)))) a s) (hp:x=y:=by omega):Stp c n g dst K Q (.pure (.v (.bool (x != y)))) a s:=by rw [bne_eq_false_iff_eq.2 hp];exact k
theorem Stp.orF {q:Bool} (k:Stp c n g dst K Q (.pure (.v (.bool (q)))) a s):Stp c n g dst K Q (.pure (.v (.bool (false||q)))) a s:=k
theorem Stp.orT {q:Bool} (k:Stp c n g dst K Q (.pure (.v (.bool (true)))) a s):Stp c n g dst K Q (.pure (.v (.bool (true||q)))) a s:=k
theorem Stp.andT {q:Bool} (k:Stp c n g dst K Q (.pure (.v (.bool (q)))) a s):Stp c n g dst K Q (.pure (.v (.bool (true && q)))) a s:=k
theorem Stp.andF {q:Bool} (k:Stp c n g dst K Q (.pure (.v (.bool (false)))) a s):Stp c n g dst K Q (.pure (.v (.bool (false && q)))) a s:=k
theorem Stp.andT2 {q:Bool} (k:Stp c n g dst K Q (.pure (.v (.bool (q)))) a s):Stp c n g dst K Q (.pure (.v (.bool (q && true)))) a s:=by simpa using k
theorem Stp.orF2 {q:Bool} (k:Stp c n g dst K Q (.pure (.v (.bool (q)))) a s):Stp c n g dst K Q (.pure (.v (.bool (q||false)))) a s:=by simpa using k
theorem Stp.notT (k:Stp c n g dst K Q (.pure (.v (.bool (false)))) a s):Stp c n g dst K Q (.pure (.v (.bool (!true)))) a s:=k
theorem Stp.notF (k:Stp c n g dst K Q (.pure (.v (.bool (true)))) a s):Stp c n g dst K Q (.pure (.v (.bool (!false)))) a s:=k
theorem Stp.isSum {x:Int} (k:Stp c n g dst K Q (.pure (.v (.int .i64 (IntKind.i64.wrap x)))) a s):Stp c n g dst K Q (.pure (.v (.int .i64 (IntKind.i64.wrap x)))) a s:=k
theorem Stp.sum {x:Int} (k:Stp c n g dst K Q (.pure (.v (.int .i64 (x)))) a s) (hw : -9223372036854775808≤x∧x < 9223372036854775808:=by omega):Stp c n g dst K Q (.pure (.v (.int .i64 (IntKind.i64.wrap x)))) a s:=by rw [wrap64 hw];exact k
end
section
variable {c:Cx} {n:Nat} {t:HS} {g:Tag} {dst:Option Tmp} {K:Fr→Prop} {a a':Fr}
theorem DStp.isDec {p:Prop} [Decidable p] (k:DStp c n t g dst K (.pure (.v (.bool (decide p)))) a):DStp c n t g dst K (.pure (.v (.bool (decide p)))) a:=k
theorem DStp.isEq {x y:Int} (k:DStp c n t g dst K (.pure (.v (.bool (x == y)))) a):DStp c n t g dst K (.pure (.v (.bool (x == y)))) a:=k
theorem DStp.isNe {x y:Int} (k:DStp c n t g dst K (.pure (.v (.bool (x != y)))) a):DStp c n t g dst K (.pure (.v (.bool (x != y)))) a:=k
theorem DStp.decT {p:Prop} [Decidable p] (k:DStp c n t g dst K (.pure (.v (.bool (true)))) a) (hp:p:=by omega):DStp c n t g dst K (.pure (.v (.bool (decide p)))) a:=by rw [decide_eq_true hp];exact k
theorem DStp.decF {p:Prop} [Decidable p] (k:DStp c n t g dst K (.pure (.v (.bool (false)))) a) (hp:¬ p:=by omega):DStp c n t g dst K (.pure (.v (.bool (decide p)))) a:=by rw [decide_eq_false hp];exact k
theorem DStp.eqT {x y:Int} (k:DStp c n t g dst K (.pure (.v (.bool (true)))) a) (hp:x=y:=by omega):DStp c n t g dst K (.pure (.v (.bool (x == y)))) a:=by rw [beq_iff_eq.2 hp];exact k
theorem DStp.eqF {x y:Int} (k:DStp c n t g dst K (.pure (.v (.bool (false)))) a) (hp:¬ x=y:=by omega):DStp c n t g dst K (.pure (.v (.bool (x == y)))) a:=by rw [beq_eq_false_iff_ne.2 hp];exact k
theorem DStp.neT {x y:Int} (k:DStp c n t g dst K (.pure (.v (.bool (true)))) a) (hp:¬ x=y:=by omega):DStp c n t g dst K (.pure (.v (.bool (x != y)))) a:=by rw [bne_iff_ne.2 hp];exact k
theorem DStp.neF {x y:Int} (k:DStp c n t g dst K (.pure (.v (.bool (false)))) a) (hp:x=y:=by omega):DStp c n t g dst K (.pure (.v (.bool (x != y)))) a:=by rw [bne_eq_false_iff_eq.2 hp];exact k
theorem DStp.orF {q:Bool} (k:DStp c n t g dst K (.pure (.v (.bool (q)))) a):DStp c n t g dst K (.pure (.v (.bool (false||q)))) a:=k
theorem DStp.orT {q:Bool} (k:DStp c n t g dst K (.pure (.v (.bool (true)))) a):DStp c n t g dst K (.pure (.v (.bool (true||q)))) a:=k
theorem DStp.andT {q:Bool} (k:DStp c n t g dst K (.pure (.v (.bool (q)))) a):DStp c n t g dst K (.pure (.v (.bool (true && q)))) a:=k
theorem DStp.andF {q:Bool} (k:DStp c n t g dst K (.pure (.v (.bool (false)))) a):DStp c n t g dst K (.pure (.v (.bool (false && q)))) a:=k
theorem DStp.andT2 {q:Bool} (k:DStp c n t g dst K (.pure (.v (.bool (q)))) a):DStp c n t g dst K (.pure (.v (.bool (q && true)))) a:=by simpa using k
theorem DStp.orF2 {q:Bool} (k:DStp c n t g dst K (.pure (.v (.bool (q)))) a):DStp c n t g dst K (.pure (.v (.bool (q||false)))) a:=by simpa using k
theorem DStp.notT (k:DStp c n t g dst K (.pure (.v (.bool (false)))) a):DStp c n t g dst K (.pure (.v (.bool (!true)))) a:=k
theorem DStp.notF (k:DStp c n t g dst K (.pure (.v (.bool (true)))) a):DStp c n t g dst K (.pure (.v (.bool (!false)))) a:=k
theorem DStp.isSum {x:Int} (k:DStp c n t g dst K (.pure (.v (.int .i64 (IntKind.i64.wrap x)))) a):DStp c n t g dst K (.pure (.v (.int .i64 (IntKind.i64.wrap x)))) a:=k
theorem DStp.sum {x:Int} (k:DStp c n t g dst K (.pure (.v (.int .i64 (x)))) a) (hw : -9223372036854775808≤x∧x < 9223372036854775808:=by omega):DStp c n t g dst K (.pure (.v (.int .i64 (IntKind.i64.wrap x)))) a:=by rw [wrap64 hw];exact k
end
theorem Stp.valS {c:Cx} {n:Nat} {dst:Option Tmp} {K:Fr→HS→Prop} {Q:HExit→Fr→HS→Prop} {a:Fr} {s:HS} {φ:Prop} {x:HV} (h:Side φ (Stp c n .sure dst K Q (.pure x) a s)):Stp c n .sure dst K Q (.val φ x) a s:=⟨⟨h.1,h.2.out⟩⟩
theorem Stp.valSC {c:Cx} {n:Nat} {b:Bool} {dst:Option Tmp} {K:Fr→HS→Prop} {Q:HExit→Fr→HS→Prop} {a:Fr} {s:HS} {φ:Prop} {x:HV} (h:Side (b=true→φ) (Stp c n (.cond b) dst K Q (.pure x) a s)):Stp c n (.cond b) dst K Q (.val φ x) a s:=⟨⟨h.1,h.2.out⟩⟩
theorem DStp.valS {c:Cx} {n:Nat} {t:HS} {dst:Option Tmp} {K:Fr→Prop} {a:Fr} {φ:Prop} {x:HV} (h:Side φ (DStp c n t .sure dst K (.pure x) a)):DStp c n t .sure dst K (.val φ x) a:=⟨⟨h.1,h.2.out⟩⟩
theorem DStp.valSC {c:Cx} {n:Nat} {t:HS} {b:Bool} {dst:Option Tmp} {K:Fr→Prop} {a:Fr} {φ:Prop} {x:HV} (h:Side (b=true→φ) (DStp c n t (.cond b) dst K (.pure x) a)):DStp c n t (.cond b) dst K (.val φ x) a:=⟨⟨h.1,h.2.out⟩⟩
/-! An operation by its tag. -/
structure OpsT (c:Cx) (n:Nat) (all:Array Oper) (o:Oper) (l:List Oper) (Q:HExit→Fr→HS→Prop) (tg:Tag) (a:Fr) (s:HS):Prop where
 out:active all a o=some tg→Ops c n all (o::l) Q a s
section
variable {c:Cx} {n:Nat} {all:Array Oper} {o:Oper} {l:List Oper} {Q:HExit→Fr→HS→Prop} {a:Fr} {s:HS}
theorem Ops.tag {tg:Tag} (hact:active all a o=some tg) (h:OpsT c n all o l Q tg a s):Ops c n all (o::l) Q a s:=h.out hact
theorem OpsT.go {tg:Tag} (h:Stp c n tg o.dst (fun a' s'=>Ops c n all l Q a' s') Q (hop c o.op a s) a s):OpsT c n all o l Q tg a s:=⟨fun hact=>Ops.cons hact h⟩
theorem OpsT.yes (h:Stp c n .sure o.dst (fun a' s'=>Ops c n all l Q a' s') Q (hop c o.op a s) a s):OpsT c n all o l Q (.cond true) a s:=by
 refine ⟨fun hact=>⟨fun s0 G0 w0 h0 k hk G w ra hp hf=>?_⟩⟩
 have hko:all[k]? = some o:=by
  have:(all.toList.drop k)[0]? = some o:=by rw [hk];rfl
  rw [List.getElem?_drop] at this
  simpa using this
 have hrest:all.toList.drop (k+1)=l:=by rw [←List.drop_drop,hk];rfl
 simp only [List.length_cons,List.range'_succ,wpOpsY,hko]
 have next:∀ {g:Tag} {x:HV} {s':HS} {G':Ghost} {w':World} {u:Value},Post s G w s' G' w'→tagRel G' g x u→PutK n o.dst g (fun a' s'=>Ops c n all l Q a' s') a x s'→wpOpsY c.P all (Lift n s0 G0 w0 Q) (List.range' (k+1) l.length) (ra.put o.dst u) w':=by
  intro g x s' G' w' u hp' hu ⟨a',ha,hm⟩
  exact hm.out s0 G0 w0 h0 (k+1) hrest G' w' _ (hp.trans h0 hp') ((hf.mono hp'.ext.le).put ha hu)
 have hsem:=hop_ok c hp.srel hf o
 have called:∀ {f:FuncId} {xs:List HV} {vs:Array Value},(execOp ra.eval o).run c.P w = .ok (.enter f vs) w→relVs G xs vs.toList→CallWp c f xs s (fun x s'=>PutK n o.dst .sure (fun a' s'=>Ops c n all l Q a' s') a x s') (fun x s'=>Q (.pan x) a s')→Oper.wpY c.P o ra w (wpOpsY c.P all (Lift n s0 G0 w0 Q) (List.range' (k+1) l.length)) (Lift n s0 G0 w0 Q):=by
  intro f xs vs hr hx hc
  unfold Oper.wpY
  rw [hr,Oper.uponY_enter]
  refine (hc.out.out G w vs hp.srel hx).mono fun e w' ⟨he,s',G',hR,hrel,hp'⟩=>?_
  cases he with
  |ret x=>
   cases e<;>first|exact hrel.elim|skip
   exact next (g:=.sure) hp' hrel hR
  |pan x=>
   cases e<;>first|exact hrel.elim|skip
   exact ⟨.pan x,a,s',G',hR,hrel,hf.mono hp'.ext.le,hp.trans h0 hp'⟩
 have h:=h.out
 have hw:=active_ok hf hact
 simp only [] at hw h
 rw [hw]
 simp only [if_true]
 refine .inl ?_
 generalize hop c o.op a s=q at h hsem
 induction q with
 |bad=>exact h.elim
 |pure x=>
  obtain ⟨u,w',G',hy,hr,hp'⟩:=hsem
  exact upon_gives hy (next (g:=.sure) hp' hr h)
 |val φ x=>
  obtain ⟨hφ,h⟩:=h
  obtain ⟨u,w',G',hy,hr,hp'⟩:=hsem hφ
  exact upon_gives hy (next (g:=.sure) hp' hr h)
 |call φ f xs=>
  obtain ⟨hφ,h⟩:=h
  obtain ⟨vs,hr,hx⟩:=hsem hφ
  exact called hr hx h
 |pan φ x=>
  obtain ⟨hφ,h⟩:=h
  obtain ⟨u,hr,hu⟩:=hsem hφ
  unfold Oper.wpY
  rw [hr,Oper.uponY_panic]
  exact ⟨.pan _,a,s,G,h,⟨u,rfl,hu⟩,hf,hp⟩
 |eff W=>
  obtain ⟨x,s',hK,u,w',G',hy,hr,hp'⟩:=hsem _ h
  exact upon_gives hy (next (g:=.sure) hp' hr hK)
 |look r k ihq=>
  obtain ⟨x,hx,h⟩:=h
  exact ihq x h (hsem x hx)
theorem OpsT.no (k:PutK n o.dst (.cond false) (fun a' s'=>Ops c n all l Q a' s') a (.v (.bool false)) s):OpsT c n all o l Q (.cond false) a s:=by
 obtain ⟨a',h,k⟩:=k
 refine ⟨fun hact=>⟨fun s0 G0 w0 h0 i hk G w ra hp hf=>?_⟩⟩
 have hko:all[i]? = some o:=by
  have:(all.toList.drop i)[0]? = some o:=by rw [hk];rfl
  rw [List.getElem?_drop] at this
  simpa using this
 have hrest:all.toList.drop (i+1)=l:=by rw [←List.drop_drop,hk];rfl
 simp only [List.length_cons,List.range'_succ,wpOpsY,hko]
 have hw:=active_ok hf hact
 simp only [] at hw
 rw [hw]
 exact k.out s0 G0 w0 h0 (i+1) hrest G w _ hp (hf.put h ⟨(fun e=>by cases e),fun _=>rfl⟩)
theorem OpsT.yes' (h:Stp c n .sure o.dst (fun a' s'=>Ops c n all l Q a' s') Q (hop c o.op a s) a s):OpsT c n all o l Q (.cond (!false)) a s:=OpsT.yes h
theorem OpsT.no' (k:PutK n o.dst (.cond false) (fun a' s'=>Ops c n all l Q a' s') a (.v (.bool false)) s):OpsT c n all o l Q (.cond (!true)) a s:=OpsT.no k
theorem OpsT.andT {b:Bool} (h:OpsT c n all o l Q (.cond b) a s):OpsT c n all o l Q (.cond (true && b)) a s:=h
theorem OpsT.andF {b:Bool} (h:OpsT c n all o l Q (.cond false) a s):OpsT c n all o l Q (.cond (false && b)) a s:=h
theorem PutK.isSet {n:Nat} {dst:Option Tmp} {g:Tag} {K:Fr→HS→Prop} {a:Fr} {x:HV} {s:HS} {r:Nat} {y:Res} (k:PutK n dst g K a x (hset s r y)):PutK n dst g K a x (hset s r y):=k
theorem OpsT.id {tg:Tag} (h:OpsT c n all o l Q tg a s):OpsT c n all o l Q tg a s:=h
end
end
end Go.Proofs.Hk

set_option linter.unusedVariables false
namespace Go.Proofs.Hk
noncomputable section
open Go
/-! A row that is written no more. -/
theorem relAts_leaves {G:Ghost} {rd:Nat→Option Value} : ∀ {l:List HV} {us:List Value} {o:Nat},relCs G l us→(∀ j,j < us.length→rd (o+j)=us[j]?)→relAts G l rd o 1
 |[],us,o,_,_=>by simp only [relAts]
 |x::xs,us,o,h,hr=>by
  simp only [relCs] at h
  obtain ⟨u,us',rfl,h1,h2⟩:=h
  simp only [relAts]
  refine ⟨⟨[u],rfl,(by rw [h1.1];exact fun e=>nomatch e),fun j hj=>?_,h1.2⟩,relAts_leaves h2 fun j hj=>?_⟩
  ·have:=hr j (by simp;omega)
   have e:j=0:=by omega
   subst e
   simpa using this
  ·have:=hr (j+1) (by simp;omega)
   rw [show o+1+j=o+(j+1) from by omega]
   simpa using this
theorem HPick.mem {s s':HS} {r:Nat} {x:Res} (h:HPick s r x s'):(r,x)∈s:=h.perm.mem_iff.1 (by simp)
theorem HPick.sub {s s':HS} {r:Nat} {x:Res} (h:HPick s r x s') {y:Nat × Res} (hy:y∈s'):y∈s:=h.perm.mem_iff.1 (by simp [hy])
theorem HPick.nodup {s s':HS} {r:Nat} {x:Res} (h:HPick s r x s') (hn:(keys s).Nodup):(keys s').Nodup∧r∉keys s':=by
 have hp:(((r,x)::s').map (·.1)).Perm (keys s):=h.perm.map _
 have:=hp.nodup_iff.2 hn
 simp only [List.map_cons,List.nodup_cons] at this
 exact ⟨this.2,this.1⟩
theorem sem_freeze (c:Cx) {n:Nat} {code:Code} {Q:HExit→Fr→HS→Prop} {a:Fr} {s s':HS} (t r:Nat) {off len cap:Nat} {cs:List HV} {ty:TypeId} (ha:a.get t=some (.sure,.arr r off len cap 1)) (hp:HPick s r (.cells cs ty) s') (h1:off+len≤cs.length) (hc:len≤cap)
  (h:SemWp c.P n code Q ((t,.sure,.list .no 1 ((cs.drop off).take len))::a) s'):SemWp c.P n code Q a s:=
 ⟨fun G w ra hs hf=>by
  obtain ⟨b,vs,e,ro,hh,hcs,hK⟩:=hs.holds r _ hp.mem
  obtain ⟨hnd,hnr⟩:=hp.nodup hs.keys
  let G':Ghost:={ G with K:=fun b' o=>if b'=b then vs[o]? else G.K b' o}
  have le:G.Le G':=⟨fun b' o v e'=>by
   simp only [G']
   split
   ·rename_i hb;subst hb;rw [hK] at e';cases e'
   ·exact e',fun _ _ e=>e,fun q tp e=>⟨tp,e,Nat.le_refl _,fun _=>rfl⟩,rfl⟩
  have other:∀ q b',q∈keys s'→G.role b'=some q→b'≠b:=fun q b' hq hb' e'=>by
   subst e'
   rw [ro] at hb'
   cases hb'
   exact hnr hq
  have post:Post s G w s' G' w:=by
   refine ⟨⟨fun b' o v e'=>?_,hnd,fun q x hx=>?_,hs.fresh,hs.role⟩,⟨le,Nat.le_refl _,fun b' hb' hr=>⟨rfl,rfl,fun o=>?_⟩,fun _ _ e _=>e,Nat.le_refl _,rfl,rfl,rfl,fun _ _ _ h1 h2 h3=>⟨h1,h2,h3⟩⟩,fun q hq=>.inl ?_⟩
   ·simp only [G'] at e'
    split at e'
    ·rename_i hb;subst hb
     simp only [World.cell?,hh,Option.isSome_none,Bool.false_eq_true,if_false];exact e'
    ·exact hs.kw b' o v e'
   ·have hq:q∈keys s':=List.mem_map.2 ⟨_,hx,rfl⟩
    have ho:=hs.holds q x (hp.sub hx)
    cases x with
    |cells cs t'=>
     obtain ⟨b',us,e1,ro',hh',hc',hK'⟩:=ho
     exact ⟨b',us,e1,ro',hh',relCs.mono le _ _ hc',fun o=>by simp only [G'];rw [if_neg (other q b' hq ro')];exact hK' o⟩
    |map es=>
     obtain ⟨b',ents,cl,e1,ro',hh',hc'⟩:=ho
     exact ⟨b',ents,cl,e1,ro',hh',relMap.mono le _ _ hc'⟩
    |tok m=>
     obtain ⟨tp,e1,hn,hq'⟩:=ho
     refine ⟨tp,e1,hn,fun hlt'=>?_⟩
     obtain ⟨ro',us,t',hh',hc',hK'⟩:=hq' hlt'
     exact ⟨ro',us,t',hh',hc',fun o ho=>by simp only [G'];rw [if_neg (other q _ hq ro')];exact hK' o ho⟩
    |void=>exact ho
    |loop L=>exact ho.move rfl le.to0 (fun b' hr=>⟨rfl,hr,fun o=>by simp only [G'];rw [if_neg (other q b' hq hr)]⟩)
    |row cs' sz' t''=>exact ho.move rfl le.to0 (fun b' hr=>⟨rfl,hr,fun o=>by simp only [G'];rw [if_neg (other q b' hq hr)]⟩)
   ·simp only [G']
    split
    ·rename_i hb;subst hb
     exact absurd (List.mem_map.2 ⟨_,hp.mem,rfl⟩) (hr r ro)
    ·rfl
   ·obtain ⟨y,hy,rfl⟩:=List.mem_map.1 hq
    exact List.mem_map.2 ⟨y,hp.sub hy,rfl⟩
  obtain ⟨q1,q2⟩:=hf.slots t _ _ ha
  obtain ⟨b',e',hu⟩:=rel_arr q2
  rw [e] at e'
  cases e'
  refine h.lift hs post ⟨hf.size,hf.defers.trans le.df.symm,fun t' g x e'=>?_⟩
  simp only [Fr.get] at e'
  split at e'
  ·rename_i ht
   have:=Nat.eq_of_beq_eq_true ht
   subst this
   cases e'
   refine ⟨q1,?_⟩
   show rel G' _ _
   rw [hu]
   have hl:=relCs_length hcs
   have hlen:((cs.drop off).take len).length=len:=by simp;omega
   have key:rel G' (.list .no 1 ((cs.drop off).take len)) (.slice (some ⟨b,off,none⟩) ((cs.drop off).take len).length cap):=by
    refine list_rel (by omega) (relAts_leaves (relCs.mono le _ _ (relCs_take len (relCs_drop off hcs))) fun j hj=>?_) trivial
    simp only [List.length_take,List.length_drop] at hj
    simp only [G',if_true]
    rw [List.getElem?_take,if_pos (by omega),List.getElem?_drop]
    simp
   rwa [hlen] at key
  ·exact ⟨(hf.slots t' g x e').1,(hf.slots t' g x e').2.mono le⟩⟩
end
end Go.Proofs.Hk

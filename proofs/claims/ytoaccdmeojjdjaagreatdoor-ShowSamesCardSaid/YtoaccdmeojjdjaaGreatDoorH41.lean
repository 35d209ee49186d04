import Derived.Test.YtoaccdmeojjdjaaGreatDoorH30
set_option linter.unusedSimpArgs false
set_option linter.unusedVariables false
set_option linter.unusedVariables false
namespace Go.Proofs.Hk
noncomputable section
open Go
/-- A call that tells something out of a family. -/
theorem callTX (c:Cx) {α:Type} {φ:α→Prop} {v:α→HV} {S:α→HS} {f:FuncId} {xs:List HV} {s1 s t:HS} {K E:HV→HS→Prop} (h:HCalls c.P f xs s1 fun e st=>∃ x,φ x∧e = .ret (v x)∧st=S x) (p:HTake s s1 t) (hk:∀ x,φ x→forceL (S x ++ t) (K (v x))):CallWp c f xs s K E:=
 callWp c (HCalls.use (t:=t) (R':=fun e st=>∃ x,φ x∧e = .ret (v x)∧st=S x ++ t) h (List.perm_append_comm.trans (List.perm_append_comm.trans p.perm)) fun e s3 ⟨x,h0,h1,h2⟩=>⟨x,h0,h1,by rw [h2]⟩) (fun y s' ⟨x,h0,h1,h2⟩=>by
  cases h1
  subst h2
  have:=hk x h0
  rw [forceL_eq] at this
  exact this) (fun y s' ⟨x,h0,h1,h2⟩=>by cases h1)
theorem HCalls.toX {P:Program} {f:FuncId} {xs:List HV} {s:HS} {α:Type} {φ:α→Prop} {v:α→HV} {S:α→HS} (h:HCalls P f xs s fun e st=>∃ x,φ x∧WeakerE e (.ret (v x))∧Subp (S x) st):HCalls P f xs s fun e st=>∃ x,φ x∧e = .ret (v x)∧st=S x:=
 HCalls.weaken h fun e s1 ⟨x,h0,h1,h2⟩=>⟨.ret (v x),S x,h1,h2,x,h0,rfl,rfl⟩
theorem HCalls.one {P:Program} {f:FuncId} {xs:List HV} {s:HS} {α:Type} {φ:α→Prop} {v:α→HV} {S:α→HS} (x:α) (h0:φ x) (h:HCalls P f xs s fun e st=>e = .ret (v x)∧st=S x):HCalls P f xs s fun e st=>∃ x,φ x∧e = .ret (v x)∧st=S x:=
 h.mono fun e st ⟨h1,h2⟩=>⟨x,h0,h1,h2⟩
theorem relVs_nilOwn {G:Ghost} {i sz:Nat} {tp:Top} (ht:G.top i=some tp):∀ {pre post:List HV} {us:List Value},relVs G (pre ++ .v (.slice none 0 0)::post) us→relVs G (pre ++ .list (.own i 0) sz []::post) us
 |[],post,us,h=>by
  simp only [List.nil_append,relVs_cons] at h ⊢
  obtain ⟨u,us',e,h1,h2⟩:=h
  refine ⟨u,us',e,?_,h2⟩
  have:=rel_v_eq h1
  subst this
  exact list_rel_nil ⟨_,ht,Nat.zero_le _⟩
 |x::pre,post,us,h=>by
  simp only [List.cons_append,relVs_cons] at h ⊢
  obtain ⟨u,us',e,h1,h2⟩:=h
  exact ⟨u,us',e,h1,relVs_nilOwn ht h2⟩
/-- Nothing handed on is a row of one's own. -/
theorem HCalls.nilOwn {P:Program} {f:FuncId} {pre post:List HV} {s:HS} {R:HEnd→HS→Prop} (sz:Nat) (h:∀ q,q∉keys s→HCalls P f (pre ++ .list (.own q 0) sz []::post) ((q,.tok 0)::s) R):HCalls P f (pre ++ .v (.slice none 0 0)::post) s R:=
 ⟨fun G w vs hs ha=>by
  obtain ⟨G',le,ht,P1⟩:=post_tok hs 0
  have hq:G.lim∉keys s:=fun hm=>by have:=hs.lt_key hm;omega
  exact ((h G.lim hq).out G' w vs P1.srel (relVs_nilOwn ht (relVs.mono0 le.to0 _ _ ha))).mono fun e w' ⟨he,s',G2,hR,hr,hp⟩=>⟨he,s',G2,hR,hr,P1.trans hs hp⟩⟩
end
end Go.Proofs.Hk

set_option linter.unusedVariables false
namespace Go.Proofs.Hk
noncomputable section
open Go
/-! A region whose order is drawn, in which one operation calls a function whose result is one of a family. -/
section
variable (P:Program) (n:Nat) (ops:Array Oper) (t:HS) (E R:Nat→Option Nat) (X p:Nat) (oX:Oper)
def YX (g:GF) (qs:List HS) (Φ:HV→HS→Prop):Prop:=
 (∀ d,oX.dst=some d→d < n)∧∀ G w ra,SRel G (qs.flatten ++ t) w→FOn (oX.looksAt ops) G n g ra→
  Region.wanted oX (yielded ops ra.tmps)=true∧OpTo P oX ra w fun u w'=>∃ x m' G',Φ x m'∧rel G' x u∧Post (qs.flatten ++ t) G w ((qs.set p m').flatten ++ t) G' w'
def Fam (g:GF) (a:List HS) (K:GF→List HS→Prop):Prop:=
 ∃ Φ:HV→HS→Prop,(∀ qs:List HS,qs[p]? = a[p]?→YX P n ops t p oX g qs Φ)∧∀ x m',Φ x m'→K (gput g oX.dst (.sure,x)) (a.set p m')
variable {P n ops t p oX} in
theorem Fam.mono {g:GF} {a:List HS} {K K':GF→List HS→Prop} (h:Fam P n ops t p oX g a K) (hk:∀ g a,K g a→K' g a):Fam P n ops t p oX g a K':=by
 obtain ⟨Φ,h1,h2⟩:=h
 exact ⟨Φ,h1,fun x m' hx=>hk _ _ (h2 x m' hx)⟩
def qOpX (i:Nat) (K:GF→List HS→Prop) (g:GF) (a:List HS):Prop:=if i=X then Fam P n ops t p oX g a K else qOpN P n ops t E R i K g a
theorem qOpX_mono {i:Nat} {K K':GF→List HS→Prop} (h:∀ g a,K g a→K' g a) {g:GF} {a:List HS} (hh:qOpX P n ops t E R X p oX i K g a):qOpX P n ops t E R X p oX i K' g a:=by
 unfold qOpX at *
 split
 ·rename_i e;rw [if_pos e] at hh;exact hh.mono h
 ·rename_i e;rw [if_neg e] at hh;exact qOpN_mono P n ops t E R h hh
theorem YX.put {g:GF} {qs:List HS} {Φ:HV→HS→Prop} (h:YX P n ops t p oX g qs Φ) {dst:Option Tmp} (hd:∀ d,dst=some d→d∉oX.looksAt ops) (e':Tag × HV):YX P n ops t p oX (gput g dst e') qs Φ:=by
 refine ⟨h.1,fun G w ra hs hf=>h.2 G w ra hs ⟨hf.size,hf.defers,fun s hs' tg x eq=>hf.slots s hs' tg x ?_⟩⟩
 cases dst with
 |none=>exact eq
 |some d=>
  simp only [gput]
  rw [if_neg (fun hh:s=d=>hd d rfl (hh ▸ hs'))]
  exact eq
theorem YX.unput {g:GF} {qs:List HS} {Φ:HV→HS→Prop} {dst:Option Tmp} {e':Tag × HV} (h:YX P n ops t p oX (gput g dst e') qs Φ) (hd:∀ d,dst=some d→d∉oX.looksAt ops):YX P n ops t p oX g qs Φ:=by
 refine ⟨h.1,fun G w ra hs hf=>h.2 G w ra hs ⟨hf.size,hf.defers,fun s hs' tg x eq=>hf.slots s hs' tg x ?_⟩⟩
 cases dst with
 |none=>exact eq
 |some d=>
  simp only [gput] at eq
  rw [if_neg (fun hh:s=d=>hd d rfl (hh ▸ hs'))] at eq
  exact eq
theorem Fam.put {i:Nat} {oi:Oper} {e:Tag × HV} (hE:E X=some p) (hap:apartN ops E R i X oi oX=true) {K:GF→List HS→Prop} {g:GF} {a a':List HS}
  (hy:YFN P n ops t E R i oi g a e a') (h:Fam P n ops t p oX (gput g oi.dst e) a' K) :
  Fam P n ops t p oX g a (fun g1 a1=>∃ a2,YFN P n ops t E R i oi g1 a1 e a2∧K (gput g1 oi.dst e) a2):=by
 simp only [apartN,Bool.and_eq_true] at hap
 obtain ⟨hap0,hap1⟩:=hap
 obtain ⟨h1,h2,h3⟩:=Oper.apart_spec hap0
 have ne:∀ {p q:Nat},(!(Nat.beq p q))=true→p≠q:=fun {p q} h e=>by subst e;simp at h
 obtain ⟨Φ,k1,k2⟩:=h
 unfold YFN at hy ⊢
 simp only [hE] at hap1
 cases hEi:E i with
 |some q=>
  simp only [hEi] at hy ⊢ hap1
  obtain ⟨m',hy1,rfl,hy2⟩:=hy
  have hpq:q≠p:=ne hap1
  refine ⟨Φ,fun qs hqs=>YX.unput P n ops t p oX (k1 qs (by rw [hqs,List.getElem?_set_ne hpq])) h1,fun x mx hx=>⟨_,⟨m',hy1,rfl,fun qs hqs=>(hy2 qs ?_).put P n ops t h3 _⟩,?_⟩⟩
  ·rw [hqs,List.getElem?_set_ne (Ne.symm hpq)]
  ·rw [←gput_comm g e _ h2,List.set_comm _ _ (Ne.symm hpq)];exact k2 x mx hx
 |none=>
  simp only [hEi] at hy ⊢ hap1
  cases hRi:R i with
  |some q=>
   simp only [hRi] at hy ⊢ hap1
   obtain ⟨rfl,hy⟩:=hy
   have hpq:p≠q:=Ne.symm (ne hap1)
   refine ⟨Φ,fun qs hqs=>YX.unput P n ops t p oX (k1 qs hqs) h1,fun x mx hx=>⟨_,⟨rfl,fun qs hqs=>(hy qs (by rw [hqs,List.getElem?_set_ne hpq])).put P n ops t h3 _⟩,?_⟩⟩
   rw [←gput_comm g e _ h2];exact k2 x mx hx
  |none=>
   simp only [hRi] at hy ⊢
   obtain ⟨rfl,hy⟩:=hy
   refine ⟨Φ,fun qs hqs=>YX.unput P n ops t p oX (k1 qs hqs) h1,fun x mx hx=>⟨_,⟨rfl,fun m0=>(hy m0).put P n ops t h3 _⟩,?_⟩⟩
   rw [←gput_comm g e _ h2];exact k2 x mx hx
def wpAnyX (Q:GF→List HS→Prop):Nat→Array Bool→GF→List HS→Prop
 |0,listed,g,a=>Region.ready .any ops listed=[]∧Q g a
 |fuel+1,listed,g,a=>
  (Region.ready .any ops listed=[]→Q g a)∧
  ∀ i∈Region.ready .any ops listed,qOpX P n ops t E R X p oX i (wpAnyX Q fuel (listed.setIfInBounds i true)) g a
theorem wpAny_of_X (hX:ops[X]? = some oX) {Q:GF→List HS→Prop} {Q':Exit→Act→World→Prop} {s0:HS} {G0:Ghost} {w0:World} (h0:SRel G0 s0 w0)
  (hQ:∀ g a G w ra,Post s0 G0 w0 (a.flatten ++ t) G w→FAll G n g ra→Q g a→Q' .normal ra w) :
  ∀ (fuel:Nat) (listed:Array Bool) (g:GF) (a:List HS) (G:Ghost) (w:World) (ra:Act),Post s0 G0 w0 (a.flatten ++ t) G w→FAll G n g ra→wpAnyX P n ops t E R X p oX Q fuel listed g a→wpAnyY P .any ops Q' fuel listed ra w
 |0,_,g,a,G,w,ra,hp,hf,h=>⟨h.1,hQ g a G w ra hp hf h.2⟩
 |fuel+1,listed,g,a,G,w,ra,hp,hf,h=>⟨fun h1=>hQ g a G w ra hp hf (h.1 h1),fun i hi=>by
   have hi:=h.2 i hi
   unfold qOpX at hi
   split at hi
   ·rename_i hiX
    obtain ⟨Φ,k1,k2⟩:=hi
    obtain ⟨hd,hy⟩:=k1 a rfl
    obtain ⟨hw,hto⟩:=hy G w ra hp.srel (hf.on _)
    unfold wpOpY
    rw [hiX] at k2 ⊢
    simp only [hX]
    rw [hw,if_pos rfl]
    refine .inl (hto.wp fun u w' ⟨x,m',G',hΦ,hr,hp'⟩=>?_)
    exact wpAny_of_X hX h0 hQ fuel _ _ (a.set p m') G' w' _ (hp.trans h0 hp') ((hf.mono hp'.ext.le).put hd (tg:=.sure) hr) (k2 x m' hΦ)
   unfold qOpN at hi
   unfold wpOpY
   have step:∀ {o:Oper} {e:Tag × HV} {a':List HS},YH P n ops t o g a.flatten e a'.flatten→(tgB e.1=false→a'=a)→wpAnyX P n ops t E R X p oX Q fuel (listed.setIfInBounds i true) (gput g o.dst e) a'→
     if Region.wanted o (yielded ops ra.tmps)=true then Oper.wpY P o ra w (wpAnyY P .any ops Q' fuel (listed.setIfInBounds i true)) Q'∨(False∧LetsOut Q') else wpAnyY P .any ops Q' fuel (listed.setIfInBounds i true) (ra.put o.dst undef) w:=by
    intro o e a' hy hoff hK
    obtain ⟨hd,hy⟩:=hy
    obtain ⟨hw,hto⟩:=hy G w ra hp.srel (hf.on _)
    rw [hw]
    cases hb:tgB e.1 with
    |true=>
     rw [if_pos rfl]
     refine .inl ((hto hb).wp fun u w' ⟨G',hr,hp'⟩=>?_)
     refine wpAny_of_X hX h0 hQ fuel _ _ a' G' w' _ (hp.trans h0 hp') ((hf.mono hp'.ext.le).put hd ?_) hK
     cases he:e.1 with
     |sure=>exact hr
     |cond b=>rw [he] at hb;exact ⟨fun _=>hr,(fun hb'=>by rw [show b=true from hb] at hb';cases hb')⟩
    |false=>
     rw [if_neg (by simp)]
     obtain rfl:=hoff hb
     refine wpAny_of_X hX h0 hQ fuel _ _ a' G w _ hp (hf.put hd ?_) hK
     cases he:e.1 with
     |sure=>rw [he] at hb;cases hb
     |cond b=>rw [he] at hb;exact ⟨(fun hb'=>by rw [show b=false from hb] at hb';cases hb'),fun _=>rfl⟩
   split
   ·rename_i ho;simp only [ho] at hi;exact wpAny_of_X hX h0 hQ fuel _ g a G w ra hp hf hi
   ·rename_i o ho
    simp only [ho] at hi
    split at hi
    ·obtain ⟨e,a',h1,h2,h3⟩:=hi
     exact step (h2 a rfl) (fun h=>by rw [h1] at h;cases h) h3
    ·split at hi
     ·obtain ⟨e,h2,h3⟩:=hi
      exact step (h2 a rfl) (fun _=>rfl) h3
     ·obtain ⟨e,h2,h3⟩:=hi
      exact step (h2 a.flatten) (fun _=>rfl) h3⟩
theorem qOpX_put {i j:Nat} {oi oj:Oper} {e:Tag × HV} (hX:ops[X]? = some oX) (hE:E X=some p) (hj:ops[j]? = some oj) (hap:apartN ops E R i j oi oj=true) {K:GF→List HS→Prop} {g:GF} {a a':List HS}
  (hy:YFN P n ops t E R i oi g a e a') (h:qOpX P n ops t E R X p oX j K (gput g oi.dst e) a') :
  qOpX P n ops t E R X p oX j (fun g1 a1=>∃ a2,YFN P n ops t E R i oi g1 a1 e a2∧K (gput g1 oi.dst e) a2) g a:=by
 unfold qOpX at *
 split
 ·rename_i hjX
  rw [if_pos hjX] at h
  subst hjX
  have:oj=oX:=by rw [hX] at hj;cases hj;rfl
  subst this
  exact Fam.put P n ops t E R j p oj hE hap hy h
 ·rename_i hjX
  rw [if_neg hjX] at h
  exact qOpN_put P n ops t E R hj hap hy h
theorem wpAnyX_first (hX:ops[X]? = some oX) (hE:E X=some p) {Q:GF→List HS→Prop} {i:Nat} {oi:Oper} {e:Tag × HV} (hi:ops[i]? = some oi) (hiX:i≠X) :
  ∀ (fuel:Nat) (listed:Array Bool) (g:GF) (a a':List HS),
   (∀ j oj,ops[j]? = some oj→j≠i→listed.getD j true=false→(∀ e∈oj.after,Region.binds .any e=true→e.on≠i)→apartN ops E R i j oi oj=true)→
   i∈Region.ready .any ops listed→YFN P n ops t E R i oi g a e a'→
   wpAnyX P n ops t E R X p oX Q fuel (listed.setIfInBounds i true) (gput g oi.dst e) a'→wpAnyX P n ops t E R X p oX Q (fuel+1) listed g a:=by
 intro fuel
 induction fuel with
 |zero=>
  intro listed g a a' _ hr hy H
  refine ⟨fun h=>(by rw [h] at hr;cases hr),fun j hj=>?_⟩
  by_cases hji:j=i
  ·subst hji;unfold qOpX;rw [if_neg hiX];exact hy.qOp P n ops t E R hi H
  ·have:=ready_mono hj hji
   rw [H.1] at this
   cases this
 |succ fuel ih=>
  intro listed g a a' hfree hr hy H
  refine ⟨fun h=>(by rw [h] at hr;cases hr),fun j hj=>?_⟩
  by_cases hji:j=i
  ·subst hji;unfold qOpX;rw [if_neg hiX];exact hy.qOp P n ops t E R hi H
  ·have h1:=H.2 j (ready_mono hj hji)
   obtain ⟨hjun,oj,hoj,hall⟩:=mem_ready.1 hj
   have hnot:∀ e∈oj.after,Region.binds .any e=true→e.on≠i:=fun e he hb heq=>by
    have h1:=hall e he hb
    have h0:=(mem_ready.1 hr).1
    rw [heq] at h1
    rcases Nat.lt_or_ge i listed.size with h'|h'
    ·simp [h'] at h0 h1;rw [h0] at h1;cases h1
    ·simp [Array.getElem?_eq_none h'] at h1
   have h2:=qOpX_put P n ops t E R X p oX hX hE hoj (hfree j oj hoj hji hjun hnot) hy h1
   have hfree':∀ k ok,ops[k]? = some ok→k≠i→(listed.setIfInBounds j true).getD k true=false→
     (∀ e∈ok.after,Region.binds .any e=true→e.on≠i)→apartN ops E R i k oi ok=true:=fun k ok hk hki hun hno=>by
    refine hfree k ok hk hki ?_ hno
    by_cases hjk:j=k
    ·subst hjk;exact hjun
    ·rw [getD_set_ne true hjk] at hun;exact hun
   refine qOpX_mono P n ops t E R X p oX (fun g1 a1 ⟨a2,h3,h4⟩=>ih (listed.setIfInBounds j true) g1 a1 a2 hfree' (ready_mono hr (Ne.symm hji)) h3 ?_) h2
   rw [Array.setIfInBounds_comm _ _ hji]
   exact h4
theorem textN_mono {Q Q':GF→List HS→Prop} (h:∀ g a,Q g a→Q' g a):∀ (l:List Nat) (g:GF) (a:List HS),textN P n ops t E R Q l g a→textN P n ops t E R Q' l g a
 |[],_,_,k=>h _ _ k
 |k::l,g,a,hh=>qOpN_mono P n ops t E R (fun g a=>textN_mono h l g a) hh
def lexX2:List Nat→Array Bool→Bool
 |[],listed=>(Region.ready .any ops listed).isEmpty
 |k::l,listed=>(Region.ready .any ops listed).contains k && freeN ops E R listed k && !(Nat.beq k X) && lexX2 l (listed.setIfInBounds k true)
def lexX1 (l2:List Nat):List Nat→Array Bool→Bool
 |[],listed=>(match Region.ready .any ops listed with
  |[k]=>Nat.beq k X
  |_=>false) && lexX2 ops E R X l2 (listed.setIfInBounds X true)
 |k::l,listed=>(Region.ready .any ops listed).contains k && freeN ops E R listed k && !(Nat.beq k X) && lexX1 l2 l (listed.setIfInBounds k true)
theorem neX {k X:Nat} (h:(!(Nat.beq k X))=true):k≠X:=fun e=>by subst e;simp at h
theorem wpAnyX_end (hX:ops[X]? = some oX) (hE:E X=some p) {Q:GF→List HS→Prop} : ∀ (l:List Nat) (listed:Array Bool) (g:GF) (a:List HS),lexX2 ops E R X l listed=true→textN P n ops t E R Q l g a→wpAnyX P n ops t E R X p oX Q l.length listed g a
 |[],_,_,_,hB,h=>⟨by simpa [lexX2] using hB,h⟩
 |k::l,listed,g,a,hB,h=>by
  simp only [lexX2,Bool.and_eq_true] at hB
  obtain ⟨⟨⟨hr,hf⟩,hk⟩,hB'⟩:=hB
  have hr':k∈Region.ready .any ops listed:=by simpa using hr
  obtain ⟨_,o,h0,_⟩:=mem_ready.1 hr'
  obtain ⟨e,a',hy,hK⟩:=yfN_of_qOp P n ops t E R h0 h
  exact wpAnyX_first P n ops t E R X p oX hX hE h0 (neX hk) l.length listed g a a' (freeN_spec ops E R h0 hf) hr' hy (wpAnyX_end hX hE l _ _ _ hB' hK)
theorem wpAnyX_lex (hX:ops[X]? = some oX) (hE:E X=some p) {Q:GF→List HS→Prop} (l2:List Nat):∀ (l:List Nat) (listed:Array Bool) (g:GF) (a:List HS),lexX1 ops E R X l2 l listed=true→textN P n ops t E R (fun g a=>Fam P n ops t p oX g a (textN P n ops t E R Q l2)) l g a→wpAnyX P n ops t E R X p oX Q (l2.length+1+l.length) listed g a
 |[],listed,g,a,hB,h=>by
  simp only [lexX1,Bool.and_eq_true] at hB
  obtain ⟨hr,hB'⟩:=hB
  have hr:Region.ready .any ops listed=[X]:=by
   split at hr
   ·rename_i k hk;rw [hk,Nat.eq_of_beq_eq_true hr]
   ·cases hr
  refine ⟨fun h=>(by rw [hr] at h;cases h),fun i hi=>?_⟩
  rw [hr] at hi
  have:i=X:=by simpa using hi
  subst this
  unfold qOpX
  rw [if_pos rfl]
  exact Fam.mono h fun g a h=>wpAnyX_end P n ops t E R _ p oX hX hE l2 _ g a hB' h
 |k::l,listed,g,a,hB,h=>by
  simp only [lexX1,Bool.and_eq_true] at hB
  obtain ⟨⟨⟨hr,hf⟩,hk⟩,hB'⟩:=hB
  have hr':k∈Region.ready .any ops listed:=by simpa using hr
  obtain ⟨_,o,h0,_⟩:=mem_ready.1 hr'
  obtain ⟨e,a',hy,hK⟩:=yfN_of_qOp P n ops t E R h0 h
  exact wpAnyX_first P n ops t E R X p oX hX hE h0 (neX hk) (l2.length+1+l.length) listed g a a' (freeN_spec ops E R h0 hf) hr' hy (wpAnyX_lex hX hE l2 l _ _ _ hB' hK)
end
/-- What comes before the call. -/
structure DX (c:Cx) (n:Nat) (all:Array Oper) (t:HS) (E R:List (List Nat)) (Z:Fr→List HS→Prop) (l:List Nat) (f:Fr) (ps:List HS):Prop where
 out:textN c.P n all t (partOf E 0) (partOf R 0) (fun g ps=>∃ f',(fun t=>f'.get t)=g∧Z f' ps) l (fun t=>f.get t) ps
/-- The call, and what comes behind it. -/
structure DFam (c:Cx) (n:Nat) (all:Array Oper) (t:HS) (E R:List (List Nat)) (Q:HExit→Fr→HS→Prop) (p:Nat) (o:Oper) (l2:List Nat) (f:Fr) (ps:List HS):Prop where
 out:Fam c.P n all t p o (fun t=>f.get t) ps (textN c.P n all t (partOf E 0) (partOf R 0) (fun g ps=>∃ f',(fun t=>f'.get t)=g∧Q .normal f' (ps.flatten ++ t)) l2)
section
variable {c:Cx} {n:Nat} {all:Array Oper} {t:HS} {E R:List (List Nat)} {Q:HExit→Fr→HS→Prop} {Z:Fr→List HS→Prop} {f:Fr} {ps:List HS}
theorem DX.nil (h:Z f ps):DX c n all t E R Z [] f ps:=⟨f,rfl,h⟩
def dstB (n:Nat):Option Tmp→Bool
 |none=>true
 |some d=>Nat.blt d n
theorem DFam.call {o:Oper} {p:Nat} {l2:List Nat} {a:HS} {α:Type} {ψ:α→Prop} {v:α→HV} {S:α→HS} {fn:FuncId} {φ:Prop} {xs:List HV} (ha:ps[p]? = some a) (hact:active all f o=some .sure) (hb:dstB n o.dst=true) {s:HS} (e:a ++ t=s)
  (ho:hop c o.op f s = .call φ fn xs) (hφ:φ) (h:HCalls c.P fn xs a fun e st=>∃ x,ψ x∧e = .ret (v x)∧st=S x)
  (k:∀ x,ψ x→PutD n o.dst .sure (fun f'=>DN c n all t E R Q l2 f' (ps.set p (S x))) f (v x)):DFam c n all t E R Q p o l2 f ps:=by
 subst e
 refine ⟨fun y m=>∃ x,ψ x∧y=v x∧m=S x,fun qs hqs=>⟨fun d hd=>?_,fun G w ra hs hf=>⟨d2_want hact hf,?_⟩⟩,?_⟩
 ·rw [hd] at hb;exact Nat.lt_of_lt_of_le (Nat.le_of_ble_eq_true (m:=n) hb) (Nat.le_refl _)
 ·rw [ha] at hqs
  have hs1:SRel G ((a ++ t) ++ (qs.eraseIdx p).flatten) w:=hs.permd (perm_join hqs t).symm
  have hs2:=hs1.perm (List.sublist_append_left _ _)
  have sem:ResOK c.P (a ++ t) G w ((execOp ra.eval o).run c.P w) (hop c o.op f (a ++ t)):=d2_sem hs2 hf.rel
  rw [ho] at sem
  obtain ⟨vs,hr,hx⟩:=sem hφ
  have hc:=HCalls.use (t:=t) (R':=fun e st=>∃ x,ψ x∧e = .ret (v x)∧st=S x ++ t) h (.refl _) fun e s1 ⟨x,h0,h1,h2⟩=>⟨x,h0,h1,by rw [h2]⟩
  unfold OpTo
  rw [hr]
  refine (hc.out G w vs hs2 hx).mono fun e w'' ⟨he,s1,G',⟨x,h0,h1,h2⟩,h3,h4⟩=>?_
  subst h1 h2
  cases e<;>first|exact h3.elim|skip
  exact ⟨_,rfl,v x,S x,G',⟨x,h0,rfl,rfl⟩,h3,((Post.frame hs1 h4).permL (perm_join hqs t)).permR (perm_join2 hqs t)⟩
 ·rintro y m ⟨x,h0,rfl,rfl⟩
  obtain ⟨f',hf',hK⟩:=k x h0
  obtain ⟨g1,g2⟩:=hput_get hf'
  exact g1 ▸ hK.out
theorem DX.quiet {k:Nat} {l:List Nat} {o:Oper} {tg:Tag} (hk:all[k]? = some o) (h1:partOf E 0 k=none) (h2:partOf R 0 k=none) (hact:active all f o=some tg)
  (h:DStp c n t tg o.dst (fun f'=>DX c n all t E R Z l f' ps) (hop c o.op f t) f):DX c n all t E R Z (k::l) f ps:=by
 constructor
 simp only [textN,qOpN,hk,h1,h2]
 have quiet:∀ {x:HV},(∀ d,o.dst=some d→d < n)→(∀ G w ra,SRel G t w→FRel G n (Fr.only (o.looksAt all) f) ra→tgB tg=true→OpTo c.P o ra w fun u w'=>∃ G',rel G' x u∧Post t G w t G' w')→YQ c.P n all t o (fun t=>f.get t) (tg,x):=fun hd hy m=>
  ⟨hd,fun G w ra hs hf=>⟨d2_want hact hf,fun hb=>(hy G w ra hs.right hf.rel hb).mono fun u w' ⟨G',hr,hp⟩=>⟨G',hr,hp.frameL hs⟩⟩⟩
 have step:∀ {x:HV},PutD n o.dst tg (fun f'=>DX c n all t E R Z l f' ps) f x→(∀ d,o.dst=some d→d < n)∧textN c.P n all t (partOf E 0) (partOf R 0) (fun g ps=>∃ f',(fun t=>f'.get t)=g∧Z f' ps) l (gput (fun t=>f.get t) o.dst (tg,x)) ps:=fun {x} ⟨f',hf',hK⟩=>by
  obtain ⟨h1,h2⟩:=hput_get hf'
  exact ⟨h2,h1 ▸ hK.out⟩
 have sem:∀ G w ra,SRel G t w→FRel G n (Fr.only (o.looksAt all) f) ra→ResOK c.P t G w ((execOp ra.eval o).run c.P w) (hop c o.op f t):=fun G w ra hs hf=>d2_sem hs hf
 have h:=h.out
 generalize hop c o.op f t=q at h sem
 induction q with
 |bad=>
  cases tg with
  |sure=>exact h.elim
  |cond b=>
   obtain ⟨hb0,x,hx⟩:=h
   obtain ⟨hd,hK⟩:=step hx
   exact ⟨(.cond b,x),quiet hd fun G w ra hs hf hb=>absurd hb (by simp [tgB,hb0]),hK⟩
 |pan φ x=>exact h.elim
 |eff W=>exact h.elim
 |pure x=>
  obtain ⟨hd,hK⟩:=step h
  exact ⟨(tg,x),quiet hd fun G w ra hs hf _=>opTo_gives (sem G w ra hs hf),hK⟩
 |val φ x=>
  have h:(tgB tg=true→φ)∧PutD n o.dst tg (fun f'=>DX c n all t E R Z l f' ps) f x:=by
   cases tg with
   |sure=>exact ⟨fun _=>h.1,h.2⟩
   |cond b=>exact ⟨h.1,h.2⟩
  obtain ⟨hφ,h⟩:=h
  obtain ⟨hd,hK⟩:=step h
  exact ⟨(tg,x),quiet hd fun G w ra hs hf hb=>opTo_gives (sem G w ra hs hf (hφ hb)),hK⟩
 |call φ g xs=>
  have h:∃ x,(tgB tg=true→φ∧QCall c g xs t x)∧PutD n o.dst tg (fun f'=>DX c n all t E R Z l f' ps) f x:=by
   cases tg with
   |sure=>obtain ⟨x,h1,h2⟩:=h;exact ⟨x,fun _=>h1 trivial,h2⟩
   |cond b=>obtain ⟨x,h1,h2⟩:=h;exact ⟨x,h1,h2⟩
  obtain ⟨x,hφ,h⟩:=h
  obtain ⟨hd,hK⟩:=step h
  refine ⟨(tg,x),quiet hd fun G w ra hs hf hb=>?_,hK⟩
  have hφ:=hφ hb
  obtain ⟨vs,hr,hx⟩:=sem G w ra hs hf hφ.1
  exact opTo_call hs hr hx hφ.2.out
 |look r k ihq=>
  obtain ⟨x,hx,h⟩:=h
  exact ihq x h fun G w ra hs hf=>sem G w ra hs hf x hx
theorem DX.turn {k p:Nat} {l:List Nat} {o:Oper} {a:HS} (hk:all[k]? = some o) (h1:partOf E 0 k=some p) (ha:ps[p]? = some a) (hact:active all f o=some .sure) {s:HS} (e:a ++ t=s)
  (h:TStp c n a t o.dst (fun f' a'=>DX c n all t E R Z l f' (ps.set p a')) (hop c o.op f s) f):DX c n all t E R Z (k::l) f ps:=by
 subst e
 constructor
 simp only [textN,qOpN,hk,h1]
 obtain ⟨x,a',⟨f',hf',hK⟩,hto⟩:=turn_to (all:=all) (f:=f) (n:=n) (o:=o) h.out (fun G w ra hs hf=>d2_sem hs hf)
 obtain ⟨g1,g2⟩:=hput_get hf'
 refine ⟨(.sure,x),a',rfl,fun qs hqs=>⟨g2,fun G w ra hs hf=>⟨d2_want hact hf,fun _=>?_⟩⟩,g1 ▸ hK.out⟩
 rw [ha] at hqs
 have hs1:SRel G ((a ++ t) ++ (qs.eraseIdx p).flatten) w:=hs.permd (perm_join hqs t).symm
 exact (hto G w ra (hs1.perm (List.sublist_append_left _ _)) hf.rel).mono fun u w' ⟨G',hr,hp⟩=>⟨G',hr,((Post.frame hs1 hp).permL (perm_join hqs t)).permR (perm_join2 hqs t)⟩
/-- An operation that reads a part and leaves it. -/
theorem DX.read {k p:Nat} {l:List Nat} {o:Oper} {tg:Tag} {a:HS} (hk:all[k]? = some o) (h1:partOf E 0 k=none) (h2:partOf R 0 k=some p) (ha:ps[p]? = some a) (hact:active all f o=some tg) {s:HS} (e:a ++ t=s)
  (h:DStp c n s tg o.dst (fun f'=>DX c n all t E R Z l f' ps) (hop c o.op f s) f):DX c n all t E R Z (k::l) f ps:=by
 subst e
 constructor
 simp only [textN,qOpN,hk,h1,h2]
 have quiet:∀ {x:HV},(∀ d,o.dst=some d→d < n)→(∀ G w ra,SRel G (a ++ t) w→FRel G n (Fr.only (o.looksAt all) f) ra→tgB tg=true→OpTo c.P o ra w fun u w'=>∃ G',rel G' x u∧Post (a ++ t) G w (a ++ t) G' w')→∀ qs:List HS,qs[p]? = ps[p]?→YH c.P n all t o (fun t=>f.get t) qs.flatten (tg,x) qs.flatten:=fun hd hy qs hqs=>
  ⟨hd,fun G w ra hs hf=>⟨d2_want hact hf,fun hb=>by
   rw [ha] at hqs
   have hs1:SRel G ((a ++ t) ++ (qs.eraseIdx p).flatten) w:=hs.permd (perm_join hqs t).symm
   exact (hy G w ra (hs1.perm (List.sublist_append_left _ _)) hf.rel hb).mono fun u w' ⟨G',hr,hp⟩=>⟨G',hr,((Post.frame hs1 hp).permL (perm_join hqs t)).permR (perm_join hqs t)⟩⟩⟩
 have step:∀ {x:HV},PutD n o.dst tg (fun f'=>DX c n all t E R Z l f' ps) f x→(∀ d,o.dst=some d→d < n)∧textN c.P n all t (partOf E 0) (partOf R 0) (fun g ps=>∃ f',(fun t=>f'.get t)=g∧Z f' ps) l (gput (fun t=>f.get t) o.dst (tg,x)) ps:=fun {x} ⟨f',hf',hK⟩=>by
  obtain ⟨h1,h2⟩:=hput_get hf'
  exact ⟨h2,h1 ▸ hK.out⟩
 have sem:∀ G w ra,SRel G (a ++ t) w→FRel G n (Fr.only (o.looksAt all) f) ra→ResOK c.P (a ++ t) G w ((execOp ra.eval o).run c.P w) (hop c o.op f (a ++ t)):=fun G w ra hs hf=>d2_sem hs hf
 have h:=h.out
 generalize hop c o.op f (a ++ t)=q at h sem
 induction q with
 |bad=>
  cases tg with
  |sure=>exact h.elim
  |cond b=>
   obtain ⟨hb0,x,hx⟩:=h
   obtain ⟨hd,hK⟩:=step hx
   exact ⟨(.cond b,x),quiet hd fun G w ra hs hf hb=>absurd hb (by simp [tgB,hb0]),hK⟩
 |pan φ x=>exact h.elim
 |eff W=>exact h.elim
 |pure x=>
  obtain ⟨hd,hK⟩:=step h
  exact ⟨(tg,x),quiet hd fun G w ra hs hf _=>opTo_gives (sem G w ra hs hf),hK⟩
 |val φ x=>
  have h:(tgB tg=true→φ)∧PutD n o.dst tg (fun f'=>DX c n all t E R Z l f' ps) f x:=by
   cases tg with
   |sure=>exact ⟨fun _=>h.1,h.2⟩
   |cond b=>exact ⟨h.1,h.2⟩
  obtain ⟨hφ,h⟩:=h
  obtain ⟨hd,hK⟩:=step h
  exact ⟨(tg,x),quiet hd fun G w ra hs hf hb=>opTo_gives (sem G w ra hs hf (hφ hb)),hK⟩
 |call φ g xs=>
  have h:∃ x,(tgB tg=true→φ∧QCall c g xs (a ++ t) x)∧PutD n o.dst tg (fun f'=>DX c n all t E R Z l f' ps) f x:=by
   cases tg with
   |sure=>obtain ⟨x,h1,h2⟩:=h;exact ⟨x,fun _=>h1 trivial,h2⟩
   |cond b=>obtain ⟨x,h1,h2⟩:=h;exact ⟨x,h1,h2⟩
  obtain ⟨x,hφ,h⟩:=h
  obtain ⟨hd,hK⟩:=step h
  refine ⟨(tg,x),quiet hd fun G w ra hs hf hb=>?_,hK⟩
  have hφ:=hφ hb
  obtain ⟨vs,hr,hx⟩:=sem G w ra hs hf hφ.1
  exact opTo_call hs hr hx hφ.2.out
 |look r k ihq=>
  obtain ⟨x,hx,h⟩:=h
  exact ihq x h fun G w ra hs hf=>sem G w ra hs hf x hx
/-- An alloc, by a name that was kept free. -/
theorem DX.alloc {k p:Nat} {l:List Nat} {o:Oper} {r:Nat} {m0:HS} {f':Fr} {tt:TypeId} {z:HV} {zs:List HV} (hk:all[k]? = some o) (h1:partOf E 0 k=some p) (ha:ps[p]? = some ((r,.void)::m0)) (hact:active all f o=some .sure) (ho:o.op = .alloc tt)
  (hz:hzero c tt=some z) (hkd:kdOk z=true) (hs:z.cells=zs) (hp:hput n o.dst .sure (.ptr r 0) f=some f') (h:DX c n all t E R Z l f' (ps.set p ((r,.cells zs tt)::m0))):DX c n all t E R Z (k::l) f ps:=by
 subst hs
 constructor
 simp only [textN,qOpN,hk,h1]
 obtain ⟨g1,g2⟩:=hput_get hp
 refine ⟨(.sure,.ptr r 0),(r,.cells z.cells tt)::m0,rfl,fun qs hqs=>⟨g2,fun G w ra hs hf=>⟨d2_want hact hf,fun _=>?_⟩⟩,g1 ▸ h.out⟩
 rw [ha] at hqs
 have hs1:SRel G ((r,.void)::(m0 ++ (t ++ (qs.eraseIdx p).flatten))) w:=hs.permd (by
  have:=(perm_join hqs t).symm
  simpa using this)
 obtain ⟨d,hd',hr⟩:=zero_ok c (G:=G) hz
 have ht:=c.ty_ok tt d hd'
 have g:=newAs_ok c.P (s:=m0 ++ (t ++ (qs.eraseIdx p).flatten)) hs1 tt hr hkd
 have e:(execOp ra.eval o).run c.P w=(do pure (Next.value (←(do pure (Value.pointer (some (←newVar tt d.zero)))))):Sem Next).run c.P w:=by
  simp [execOp,ho,Instr.alloc,ht.zero]
 rw [←e] at g
 refine (opTo_gives g).mono fun u w' ⟨G',hr,hp⟩=>⟨G',hr,(hp.permL ?_).permR ?_⟩
 ·have:=perm_join hqs t
  simpa using this
 ·have:=perm_join2 (m:=(r,.cells z.cells tt)::m0) hqs t
  simpa using this
end
theorem DX.id {c:Cx} {n:Nat} {all:Array Oper} {t:HS} {E R:List (List Nat)} {Z:Fr→List HS→Prop} {l:List Nat} {f:Fr} {ps:List HS} (h:DX c n all t E R Z l f ps):DX c n all t E R Z l f ps:=h
theorem drawX (c:Cx) {n id:Nat} {ops:Array Oper} {Q:HExit→Fr→HS→Prop} {f:Fr} {s:HS} (ps:List HS) {m t:HS} (e:ps.flatten=m) (E R:List (List Nat)) (X p:Nat) (l1 l2:List Nat) (hp:HTake s m t) {oX:Oper} (hX:ops[X]? = some oX) (hE:partOf E 0 X=some p) (hl:l2.length+1+l1.length=ops.size) (hB:lexX1 ops (partOf E 0) (partOf R 0) X l2 l1 (Array.replicate ops.size false)=true)
  (h:DX c n ops t E R (DFam c n ops t E R Q p oX l2) l1 f ps):DrawReg c.P n id ops Q f s:=
 ⟨⟨fun G w ra hs hf=>by
  subst e
  have hs':SRel G (ps.flatten ++ t) w:=hs.permd hp.perm.symm
  refine wpB_region_any c.orders ?_
  have h1:textN c.P n ops t (partOf E 0) (partOf R 0) (fun g ps=>Fam c.P n ops t p oX g ps (textN c.P n ops t (partOf E 0) (partOf R 0) (fun g ps=>∃ f',(fun t=>f'.get t)=g∧Q .normal f' (ps.flatten ++ t)) l2)) l1 (fun t=>f.get t) ps:=
   textN_mono c.P n ops t (partOf E 0) (partOf R 0) (fun g ps ⟨f',e,hZ⟩=>e ▸ hZ.out) l1 _ _ h.out
  have H:=wpAnyX_lex c.P n ops t (partOf E 0) (partOf R 0) X p oX hX hE l2 l1 _ _ _ hB h1
  rw [hl] at H
  have hp0:Post (ps.flatten ++ t) G w (ps.flatten ++ t) G { w with drawn:=w.drawn+1}:=Post.drawn hs' rfl rfl rfl rfl
  refine wpAny_of_X c.P n ops t (partOf E 0) (partOf R 0) X p oX hX hs' (fun g a' G' w' ra' hp' hf' ⟨f',e,hQ⟩=>?_) ops.size _ _ ps G _ ra hp0 ⟨hf.size,hf.defers,hf.slots⟩ H
  subst e
  exact ⟨.normal,f',a'.flatten ++ t,G',hQ,trivial,⟨hf'.size,hf'.defers,hf'.slots⟩,hp'.permL hp.perm⟩⟩⟩
end
end Go.Proofs.Hk

set_option linter.unusedVariables false
namespace Go.Proofs.Hk
noncomputable section
open Go
/-- An operation whose guard does not hold is passed by. -/
theorem DN.dead {c:Cx} {n:Nat} {all:Array Oper} {t:HS} {E R:List (List Nat)} {Q:HExit→Fr→HS→Prop} {f f':Fr} {ps:List HS} {k:Nat} {l:List Nat} {o:Oper} (hk:all[k]? = some o) (h1:partOf E 0 k=none) (h2:partOf R 0 k=none) (hact:active all f o=some (.cond false))
  (hp:hput n o.dst (.cond false) (.v (.bool false)) f=some f') (h:DN c n all t E R Q l f' ps):DN c n all t E R Q (k::l) f ps:=by
 constructor
 simp only [textN,qOpN,hk,h1,h2]
 obtain ⟨g1,g2⟩:=hput_get hp
 exact ⟨(.cond false,.v (.bool false)),fun m=>⟨g2,fun G w ra hs hf=>⟨d2_want hact hf,fun hb=>absurd hb (by simp [tgB])⟩⟩,g1 ▸ h.out⟩
end
end Go.Proofs.Hk

set_option linter.unusedVariables false
namespace Go.Proofs.Hk
noncomputable section
open Go
/-! The same rules, whose proofs about a state's parts come by themselves. -/
theorem callA (c:Cx) {f:FuncId} {xs:List HV} {s1 s2 s t:HS} {v:HV} {K E:HV→HS→Prop} (h:HCalls c.P f xs s1 fun e st=>e = .ret v∧st=s2) (hk:forceL (s2 ++ t) (K v))
  (p:HTake s s1 t:=by repeat first|exact HTake.nil|(apply HTake.cons;focus (repeat first|exact HPick.hit|apply HPick.miss))):CallWp c f xs s K E:=callT c h p hk
theorem callB (c:Cx) {f:FuncId} {xs:List HV} {s1 s2 s t:HS} {v:HV} {K E:HV→HS→Prop} (h:HCalls c.P f xs s1 fun e st=>e = .pan v∧st=s2) (hk:forceL (s2 ++ t) (E v))
  (p:HTake s s1 t:=by repeat first|exact HTake.nil|(apply HTake.cons;focus (repeat first|exact HPick.hit|apply HPick.miss))):CallWp c f xs s K E:=callTP c h p hk
theorem callX (c:Cx) {α:Type} {φ:α→Prop} {v:α→HV} {S:α→HS} {f:FuncId} {xs:List HV} {s1 s t:HS} {K E:HV→HS→Prop} (h:HCalls c.P f xs s1 fun e st=>∃ x,φ x∧e = .ret (v x)∧st=S x) (hk:∀ x,φ x→forceL (S x ++ t) (K (v x)))
  (p:HTake s s1 t:=by repeat first|exact HTake.nil|(apply HTake.cons;focus (repeat first|exact HPick.hit|apply HPick.miss))):CallWp c f xs s K E:=callTX c h p hk
theorem Subp.tk {s l:HS} {t:HS} (h:HTake s l t:=by repeat first|exact HTake.nil|(apply HTake.cons;focus (repeat first|exact HPick.hit|apply HPick.miss))):Subp l s:=h.subp
theorem Look.at {s:HS} {r:Nat} {x:Res} {K:Res→Prop} (k:K x) (h:HGet s r x:=by repeat first|exact HGet.hit|apply HGet.miss (by first|assumption|(apply Ne.symm;assumption)|omega)):Look s r K:=Look.auto k h
theorem PutK.st {n:Nat} {dst:Option Tmp} {g:Tag} {K:Fr→HS→Prop} {a:Fr} {x:HV} {s s':HS} {r:Nat} {y:Res} (k:PutK n dst g K a x s') (h:HsetIs s r y s':=by repeat first|exact HsetIs.hit|apply HsetIs.miss (by first|assumption|(apply Ne.symm;assumption)|omega)):PutK n dst g K a x (hset s r y):=PutK.set h k
theorem LoadIs.ag {c:Cx} {s:HS} {t:TypeId} {r off:Nat} {K:HV→Prop} {cs:List HV} {t':TypeId} {d:TyD} (hd:c.ty t=some d) (ha:d.isAgg=true) (hl:Nat.ble (off+d.size) cs.length=true) (k:K (.agg ((cs.drop off).take d.size)))
  (hg:HGet s r (.cells cs t'):=by repeat first|exact HGet.hit|apply HGet.miss (by first|assumption|(apply Ne.symm;assumption)|omega)):LoadIs c s t r off K:=LoadIs.agg hg hd ha hl k
theorem newR {s:HS} {F:Nat→Prop} (h:∀ r,r∉keys s→F r):∀ r,r∉keys s→F r:=h
end
end Go.Proofs.Hk

import Derived.Test.YtdkkmmdghfbnaaaGreatDoorH22
import Derived.Recover
set_option linter.unusedVariables false
namespace Go.Proofs.Hk
noncomputable section
open Go
/-! A region whose order is drawn, two of whose parts are turned, each by operations of its own. -/
section
variable (P:Program) (n:Nat) (ops:Array Oper) (t:HS) (E1 E2:List Nat)
def qOp2 (i:Nat) (K:GF→HS→HS→Prop) (g:GF) (a b:HS):Prop:=
 match ops[i]? with
 |none=>K g a b
 |some o=>match E1.contains i with
  |true=>∃ e a',tgB e.1=true∧(∀ b,YH P n ops t o g (a ++ b) e (a' ++ b))∧K (gput g o.dst e) a' b
  |false=>match E2.contains i with
   |true=>∃ e b',tgB e.1=true∧(∀ a,YH P n ops t o g (a ++ b) e (a ++ b'))∧K (gput g o.dst e) a b'
   |false=>∃ e,YQ P n ops t o g e∧K (gput g o.dst e) a b
theorem qOp2_mono {i:Nat} {K K':GF→HS→HS→Prop} (h:∀ g a b,K g a b→K' g a b) {g:GF} {a b:HS} (hh:qOp2 P n ops t E1 E2 i K g a b):qOp2 P n ops t E1 E2 i K' g a b:=by
 unfold qOp2 at *
 split
 ·exact h _ _ _ (by simpa [*] using hh)
 ·rename_i o ho
  simp only [ho] at hh
  split
  ·rename_i hE;simp only [hE] at hh;obtain ⟨e,m',h0,h1,h2⟩:=hh;exact ⟨e,m',h0,h1,h _ _ _ h2⟩
  ·rename_i hE
   simp only [hE] at hh
   split
   ·rename_i hE2;simp only [hE2] at hh;obtain ⟨e,m',h0,h1,h2⟩:=hh;exact ⟨e,m',h0,h1,h _ _ _ h2⟩
   ·rename_i hE2;simp only [hE2] at hh;obtain ⟨e,h1,h2⟩:=hh;exact ⟨e,h1,h _ _ _ h2⟩
def wpAny2 (Q:GF→HS→HS→Prop):Nat→Array Bool→GF→HS→HS→Prop
 |0,listed,g,a,b=>Region.ready .any ops listed=[]∧Q g a b
 |fuel+1,listed,g,a,b=>
  (Region.ready .any ops listed=[]→Q g a b)∧
  ∀ i∈Region.ready .any ops listed,qOp2 P n ops t E1 E2 i (wpAny2 Q fuel (listed.setIfInBounds i true)) g a b
theorem wpAny_of_2 {Q:GF→HS→HS→Prop} {Q':Exit→Act→World→Prop} {s0:HS} {G0:Ghost} {w0:World} (h0:SRel G0 s0 w0)
  (hQ:∀ g a b G w ra,Post s0 G0 w0 (a ++ b ++ t) G w→FAll G n g ra→Q g a b→Q' .normal ra w) :
  ∀ (fuel:Nat) (listed:Array Bool) (g:GF) (a b:HS) (G:Ghost) (w:World) (ra:Act),Post s0 G0 w0 (a ++ b ++ t) G w→FAll G n g ra→wpAny2 P n ops t E1 E2 Q fuel listed g a b→wpAnyY P .any ops Q' fuel listed ra w
 |0,_,g,a,b,G,w,ra,hp,hf,h=>⟨h.1,hQ g a b G w ra hp hf h.2⟩
 |fuel+1,listed,g,a,b,G,w,ra,hp,hf,h=>⟨fun h1=>hQ g a b G w ra hp hf (h.1 h1),fun i hi=>by
   have hi:=h.2 i hi
   unfold qOp2 at hi
   unfold wpOpY
   have step:∀ {o:Oper} {e:Tag × HV} {a' b':HS},YH P n ops t o g (a ++ b) e (a' ++ b')→(tgB e.1=false→a'=a∧b'=b)→wpAny2 P n ops t E1 E2 Q fuel (listed.setIfInBounds i true) (gput g o.dst e) a' b'→
     if Region.wanted o (yielded ops ra.tmps)=true then Oper.wpY P o ra w (wpAnyY P .any ops Q' fuel (listed.setIfInBounds i true)) Q'∨(False∧LetsOut Q') else wpAnyY P .any ops Q' fuel (listed.setIfInBounds i true) (ra.put o.dst undef) w:=by
    intro o e a' b' hy hoff hK
    obtain ⟨hd,hy⟩:=hy
    obtain ⟨hw,hto⟩:=hy G w ra hp.srel (hf.on _)
    rw [hw]
    cases hb:tgB e.1 with
    |true=>
     rw [if_pos rfl]
     refine .inl ((hto hb).wp fun u w' ⟨G',hr,hp'⟩=>?_)
     refine wpAny_of_2 h0 hQ fuel _ _ a' b' G' w' _ (hp.trans h0 hp') ((hf.mono hp'.ext.le).put hd ?_) hK
     cases he:e.1 with
     |sure=>exact hr
     |cond b=>rw [he] at hb;exact ⟨fun _=>hr,(fun hb'=>by rw [show b=true from hb] at hb';cases hb')⟩
    |false=>
     rw [if_neg (by simp)]
     obtain ⟨rfl,rfl⟩:=hoff hb
     refine wpAny_of_2 h0 hQ fuel _ _ a' b' G w _ hp (hf.put hd ?_) hK
     cases he:e.1 with
     |sure=>rw [he] at hb;cases hb
     |cond b=>rw [he] at hb;exact ⟨(fun hb'=>by rw [show b=false from hb] at hb';cases hb'),fun _=>rfl⟩
   split
   ·rename_i ho;simp only [ho] at hi;exact wpAny_of_2 h0 hQ fuel _ g a b G w ra hp hf hi
   ·rename_i o ho
    simp only [ho] at hi
    split at hi
    ·obtain ⟨e,a',h1,h2,h3⟩:=hi
     exact step (h2 b) (fun h=>by rw [h1] at h;cases h) h3
    ·split at hi
     ·obtain ⟨e,b',h1,h2,h3⟩:=hi
      exact step (h2 a) (fun h=>by rw [h1] at h;cases h) h3
     ·obtain ⟨e,h2,h3⟩:=hi
      exact step (h2 (a ++ b)) (fun _=>⟨rfl,rfl⟩) h3⟩
def YF2 (i:Nat) (o:Oper) (g:GF) (a b:HS) (e:Tag × HV) (a' b':HS):Prop:=
 match E1.contains i with
 |true=>tgB e.1=true∧b'=b∧∀ b,YH P n ops t o g (a ++ b) e (a' ++ b)
 |false=>match E2.contains i with
  |true=>tgB e.1=true∧a'=a∧∀ a,YH P n ops t o g (a ++ b) e (a ++ b')
  |false=>a'=a∧b'=b∧YQ P n ops t o g e
theorem YF2.qOp {i:Nat} {o:Oper} {g:GF} {a b a' b':HS} {e:Tag × HV} (hi:ops[i]? = some o) (hy:YF2 P n ops t E1 E2 i o g a b e a' b') {K:GF→HS→HS→Prop} (h:K (gput g o.dst e) a' b'):qOp2 P n ops t E1 E2 i K g a b:=by
 unfold qOp2
 simp only [hi]
 unfold YF2 at hy
 split at hy
 ·obtain ⟨h1,rfl,h2⟩:=hy;exact ⟨e,a',h1,h2,h⟩
 ·split at hy
  ·obtain ⟨h1,rfl,h2⟩:=hy;exact ⟨e,b',h1,h2,h⟩
  ·obtain ⟨rfl,rfl,hy⟩:=hy;exact ⟨e,hy,h⟩
theorem yf2_of_qOp {i:Nat} {o:Oper} {g:GF} {a b:HS} {K:GF→HS→HS→Prop} (hi:ops[i]? = some o) (h:qOp2 P n ops t E1 E2 i K g a b):∃ e a' b',YF2 P n ops t E1 E2 i o g a b e a' b'∧K (gput g o.dst e) a' b':=by
 unfold qOp2 at h
 simp only [hi] at h
 split at h
 ·rename_i hE
  obtain ⟨e,m',h1,h2,h3⟩:=h
  exact ⟨e,m',b,by unfold YF2;rw [hE];exact ⟨h1,rfl,h2⟩,h3⟩
 ·rename_i hE
  split at h
  ·rename_i hE2
   obtain ⟨e,m',h1,h2,h3⟩:=h
   exact ⟨e,a,m',by unfold YF2;rw [hE];simp only [hE2];exact ⟨h1,by first|rfl|exact True.intro,h2⟩,h3⟩
  ·rename_i hE2
   obtain ⟨e,h2,h3⟩:=h
   exact ⟨e,a,b,by unfold YF2;rw [hE];simp only [hE2];exact ⟨by first|rfl|exact True.intro,by first|rfl|exact True.intro,h2⟩,h3⟩
def apart2 (i j:Nat) (oi oj:Oper):Bool:=oi.apart ops oj && !(E1.contains i && E1.contains j) && !(E2.contains i && E2.contains j && !E1.contains i && !E1.contains j)
theorem qOp2_put {i j:Nat} {oi oj:Oper} {e:Tag × HV} (hj:ops[j]? = some oj) (hap:apart2 ops E1 E2 i j oi oj=true) {K:GF→HS→HS→Prop} {g:GF} {a b a' b':HS}
  (hy:YF2 P n ops t E1 E2 i oi g a b e a' b') (h:qOp2 P n ops t E1 E2 j K (gput g oi.dst e) a' b') :
  qOp2 P n ops t E1 E2 j (fun g1 a1 b1=>∃ a2 b2,YF2 P n ops t E1 E2 i oi g1 a1 b1 e a2 b2∧K (gput g1 oi.dst e) a2 b2) g a b:=by
 simp only [apart2,Bool.and_eq_true,Bool.not_eq_true'] at hap
 obtain ⟨⟨hap0,hap1⟩,hap2⟩:=hap
 obtain ⟨h1,h2,h3⟩:=Oper.apart_spec hap0
 unfold qOp2 at *
 simp only [hj] at *
 cases hEi:E1.contains i with
 |true=>
  have hEj:E1.contains j=false:=by cases hq:E1.contains j with
   |false=>rfl
   |true=>rw [hEi,hq] at hap1;cases hap1
  simp only [hEj] at h ⊢
  unfold YF2 at hy ⊢
  simp only [hEi] at hy ⊢
  obtain ⟨hy1,rfl,hy2⟩:=hy
  split at h
  ·obtain ⟨ej,b2,h0,hq,hK⟩:=h
   refine ⟨ej,b2,h0,fun a0=>(hq a0).unput P n ops t h1,a',b2,⟨hy1,rfl,fun b0=>(hy2 b0).put P n ops t h3 _⟩,?_⟩
   rw [←gput_comm g e ej h2];exact hK
  ·obtain ⟨ej,hq,hK⟩:=h
   refine ⟨ej,fun m0=>(hq m0).unput P n ops t h1,a',b',⟨hy1,rfl,fun b0=>(hy2 b0).put P n ops t h3 _⟩,?_⟩
   rw [←gput_comm g e ej h2];exact hK
 |false=>
  cases hE2i:E2.contains i with
  |true=>
   unfold YF2 at hy ⊢
   simp only [hEi,hE2i] at hy ⊢
   obtain ⟨hy1,rfl,hy2⟩:=hy
   split at h
   ·obtain ⟨ej,a2,h0,hq,hK⟩:=h
    refine ⟨ej,a2,h0,fun b0=>(hq b0).unput P n ops t h1,a2,b',⟨hy1,rfl,fun a0=>(hy2 a0).put P n ops t h3 _⟩,?_⟩
    rw [←gput_comm g e ej h2];exact hK
   ·rename_i hEj
    split at h
    ·rename_i hE2j
     rw [hE2i,hE2j,hEi,hEj] at hap2;cases hap2
    ·obtain ⟨ej,hq,hK⟩:=h
     refine ⟨ej,fun m0=>(hq m0).unput P n ops t h1,a',b',⟨hy1,rfl,fun a0=>(hy2 a0).put P n ops t h3 _⟩,?_⟩
     rw [←gput_comm g e ej h2];exact hK
  |false=>
   unfold YF2 at hy ⊢
   simp only [hEi,hE2i] at hy ⊢
   obtain ⟨rfl,rfl,hy⟩:=hy
   split at h
   ·obtain ⟨ej,a2,h0,hq,hK⟩:=h
    refine ⟨ej,a2,h0,fun b0=>(hq b0).unput P n ops t h1,a2,b',⟨rfl,rfl,fun m0=>(hy m0).put P n ops t h3 _⟩,?_⟩
    rw [←gput_comm g e ej h2];exact hK
   ·split at h
    ·obtain ⟨ej,b2,h0,hq,hK⟩:=h
     refine ⟨ej,b2,h0,fun a0=>(hq a0).unput P n ops t h1,a',b2,⟨rfl,rfl,fun m0=>(hy m0).put P n ops t h3 _⟩,?_⟩
     rw [←gput_comm g e ej h2];exact hK
    ·obtain ⟨ej,hq,hK⟩:=h
     refine ⟨ej,fun m0=>(hq m0).unput P n ops t h1,a',b',⟨rfl,rfl,fun m0=>(hy m0).put P n ops t h3 _⟩,?_⟩
     rw [←gput_comm g e ej h2];exact hK
theorem wpAny2_first {Q:GF→HS→HS→Prop} {i:Nat} {oi:Oper} {e:Tag × HV} (hi:ops[i]? = some oi) :
  ∀ (fuel:Nat) (listed:Array Bool) (g:GF) (a b a' b':HS),
   (∀ j oj,ops[j]? = some oj→j≠i→listed.getD j true=false→(∀ e∈oj.after,Region.binds .any e=true→e.on≠i)→apart2 ops E1 E2 i j oi oj=true)→
   i∈Region.ready .any ops listed→YF2 P n ops t E1 E2 i oi g a b e a' b'→
   wpAny2 P n ops t E1 E2 Q fuel (listed.setIfInBounds i true) (gput g oi.dst e) a' b'→wpAny2 P n ops t E1 E2 Q (fuel+1) listed g a b:=by
 intro fuel
 induction fuel with
 |zero=>
  intro listed g a b a' b' _ hr hy H
  refine ⟨fun h=>(by rw [h] at hr;cases hr),fun j hj=>?_⟩
  by_cases hji:j=i
  ·subst hji;exact hy.qOp P n ops t E1 E2 hi H
  ·have:=ready_mono hj hji
   rw [H.1] at this
   cases this
 |succ fuel ih=>
  intro listed g a b a' b' hfree hr hy H
  refine ⟨fun h=>(by rw [h] at hr;cases hr),fun j hj=>?_⟩
  by_cases hji:j=i
  ·subst hji;exact hy.qOp P n ops t E1 E2 hi H
  ·have h1:=H.2 j (ready_mono hj hji)
   obtain ⟨hjun,oj,hoj,hall⟩:=mem_ready.1 hj
   have hnot:∀ e∈oj.after,Region.binds .any e=true→e.on≠i:=fun e he hb heq=>by
    have h1:=hall e he hb
    have h0:=(mem_ready.1 hr).1
    rw [heq] at h1
    rcases Nat.lt_or_ge i listed.size with h'|h'
    ·simp [h'] at h0 h1;rw [h0] at h1;cases h1
    ·simp [Array.getElem?_eq_none h'] at h1
   have h2:=qOp2_put P n ops t E1 E2 hoj (hfree j oj hoj hji hjun hnot) hy h1
   have hfree':∀ k ok,ops[k]? = some ok→k≠i→(listed.setIfInBounds j true).getD k true=false→
     (∀ e∈ok.after,Region.binds .any e=true→e.on≠i)→apart2 ops E1 E2 i k oi ok=true:=fun k ok hk hki hun hno=>by
    refine hfree k ok hk hki ?_ hno
    by_cases hjk:j=k
    ·subst hjk;exact hjun
    ·rw [getD_set_ne true hjk] at hun;exact hun
   refine qOp2_mono P n ops t E1 E2 (fun g1 a1 b1 ⟨a2,b2,h3,h4⟩=>ih (listed.setIfInBounds j true) g1 a1 b1 a2 b2 hfree' (ready_mono hr (Ne.symm hji)) h3 ?_) h2
   rw [Array.setIfInBounds_comm _ _ hji]
   exact h4
def free2 (listed:Array Bool) (i:Nat):Bool:=
 match ops[i]? with
 |none=>false
 |some oi=>(List.range ops.size).all fun j=>j == i||listed.getD j true||match ops[j]? with
   |some oj=>oj.after.any (fun e=>Region.binds .any e && e.on == i)||apart2 ops E1 E2 i j oi oj
   |none=>true
theorem free2_spec {i:Nat} {oi:Oper} {listed:Array Bool} (hi:ops[i]? = some oi) (h:free2 ops E1 E2 listed i=true) (j:Nat) (oj:Oper)
  (hj:ops[j]? = some oj) (hne:j≠i) (hun:listed.getD j true=false) (hno:∀ e∈oj.after,Region.binds .any e=true→e.on≠i) :
  apart2 ops E1 E2 i j oi oj=true:=by
 simp only [free2,hi,List.all_eq_true,List.mem_range] at h
 have h1:=h j (Array.getElem?_eq_some_iff.1 hj).1
 simp only [hj,Bool.or_eq_true,beq_iff_eq,hne,false_or,hun,Bool.false_eq_true] at h1
 rcases h1 with h1|h1
 ·obtain ⟨e,he,hb⟩:=Array.any_eq_true'.1 h1
  simp only [Bool.and_eq_true,beq_iff_eq] at hb
  exact absurd hb.2 (hno e he hb.1)
 ·exact h1
def lex2:List Nat→Array Bool→Bool
 |[],listed=>(Region.ready .any ops listed).isEmpty
 |k::l,listed=>(Region.ready .any ops listed).contains k && free2 ops E1 E2 listed k && lex2 l (listed.setIfInBounds k true)
def text2 (Q:GF→HS→HS→Prop):List Nat→GF→HS→HS→Prop
 |[],g,a,b=>Q g a b
 |k::l,g,a,b=>qOp2 P n ops t E1 E2 k (text2 Q l) g a b
theorem wpAny2_lex {Q:GF→HS→HS→Prop} : ∀ (l:List Nat) (listed:Array Bool) (g:GF) (a b:HS),lex2 ops E1 E2 l listed=true→text2 P n ops t E1 E2 Q l g a b→wpAny2 P n ops t E1 E2 Q l.length listed g a b
 |[],_,_,_,_,hB,h=>⟨by simpa [lex2] using hB,h⟩
 |k::l,listed,g,a,b,hB,h=>by
  simp only [lex2,Bool.and_eq_true] at hB
  obtain ⟨⟨hr,hf⟩,hB'⟩:=hB
  have hr':k∈Region.ready .any ops listed:=by simpa using hr
  obtain ⟨_,o,h0,_⟩:=mem_ready.1 hr'
  obtain ⟨e,a',b',hy,hK⟩:=yf2_of_qOp P n ops t E1 E2 h0 h
  exact wpAny2_first P n ops t E1 E2 h0 l.length listed g a b a' b' (free2_spec ops E1 E2 h0 hf) hr' hy (wpAny2_lex l _ _ _ _ hB' hK)
end
end
end Go.Proofs.Hk

set_option linter.unusedVariables false
namespace Go.Proofs.Hk
noncomputable section
open Go
/-- Such a region by small rules: l are the operations still to come; a and b are the parts that are turned. -/
structure D2 (c:Cx) (n:Nat) (all:Array Oper) (t:HS) (E1 E2:List Nat) (Q:HExit→Fr→HS→Prop) (l:List Nat) (f:Fr) (a b:HS):Prop where
 out:text2 c.P n all t E1 E2 (fun g a b=>∃ f',(fun t=>f'.get t)=g∧Q .normal f' (a ++ b ++ t)) l (fun t=>f.get t) a b
section
variable {c:Cx} {n:Nat} {all:Array Oper} {t:HS} {E1 E2:List Nat} {Q:HExit→Fr→HS→Prop} {f:Fr} {a b:HS}
theorem D2.nil {s:HS} (e:a ++ b ++ t=s) (h:Q .normal f s):D2 c n all t E1 E2 Q [] f a b:=⟨f,rfl,by rw [e];exact h⟩
theorem d2_want {o:Oper} {tg:Tag} (hact:active all f o=some tg) {G:Ghost} {ra:Act} (hf:FOn (o.looksAt all) G n (fun t=>f.get t) ra):Region.wanted o (yielded all ra.tmps)=tgB tg:=by
 rw [←active_only] at hact
 have:=active_ok hf.rel hact
 cases tg<;>exact this
theorem d2_sem {o:Oper} {s:HS} {G:Ghost} {w:World} {ra:Act} (hs:SRel G s w) (hf:FRel G n (Fr.only (o.looksAt all) f) ra):ResOK c.P s G w ((execOp ra.eval o).run c.P w) (hop c o.op f s):=by
 have:=hop_ok c hs hf o
 rwa [hop_only c looksAt_op] at this
theorem D2.quiet {k:Nat} {l:List Nat} {o:Oper} {tg:Tag} (hk:all[k]? = some o) (h1:E1.contains k=false) (h2:E2.contains k=false) (hact:active all f o=some tg)
  (h:DStp c n t tg o.dst (fun f'=>D2 c n all t E1 E2 Q l f' a b) (hop c o.op f t) f):D2 c n all t E1 E2 Q (k::l) f a b:=by
 constructor
 simp only [text2,qOp2,hk,h1,h2]
 have quiet:∀ {x:HV},(∀ d,o.dst=some d→d < n)→(∀ G w ra,SRel G t w→FRel G n (Fr.only (o.looksAt all) f) ra→tgB tg=true→OpTo c.P o ra w fun u w'=>∃ G',rel G' x u∧Post t G w t G' w')→YQ c.P n all t o (fun t=>f.get t) (tg,x):=fun hd hy m=>
  ⟨hd,fun G w ra hs hf=>⟨d2_want hact hf,fun hb=>(hy G w ra hs.right hf.rel hb).mono fun u w' ⟨G',hr,hp⟩=>⟨G',hr,hp.frameL hs⟩⟩⟩
 have step:∀ {x:HV},PutD n o.dst tg (fun f'=>D2 c n all t E1 E2 Q l f' a b) f x→(∀ d,o.dst=some d→d < n)∧text2 c.P n all t E1 E2 (fun g a b=>∃ f',(fun t=>f'.get t)=g∧Q .normal f' (a ++ b ++ t)) l (gput (fun t=>f.get t) o.dst (tg,x)) a b:=fun {x} ⟨f',hf',hK⟩=>by
  obtain ⟨h1,h2⟩:=hput_get hf'
  exact ⟨h2,h1 ▸ hK.out⟩
 have sem:∀ G w ra,SRel G t w→FRel G n (Fr.only (o.looksAt all) f) ra→ResOK c.P t G w ((execOp ra.eval o).run c.P w) (hop c o.op f t):=fun G w ra hs hf=>d2_sem hs hf
 have h:=h.out
 generalize hop c o.op f t=q at h sem
 induction q with
 |bad=>
  cases tg with
  |sure=>exact h.elim
  |cond b=>
   obtain ⟨hb0,x,hx⟩:=h
   obtain ⟨hd,hK⟩:=step hx
   exact ⟨(.cond b,x),quiet hd fun G w ra hs hf hb=>absurd hb (by simp [tgB,hb0]),hK⟩
 |pan φ x=>exact h.elim
 |eff W=>exact h.elim
 |pure x=>
  obtain ⟨hd,hK⟩:=step h
  exact ⟨(tg,x),quiet hd fun G w ra hs hf _=>opTo_gives (sem G w ra hs hf),hK⟩
 |val φ x=>
  have h:(tgB tg=true→φ)∧PutD n o.dst tg (fun f'=>D2 c n all t E1 E2 Q l f' a b) f x:=by
   cases tg with
   |sure=>exact ⟨fun _=>h.1,h.2⟩
   |cond b=>exact ⟨h.1,h.2⟩
  obtain ⟨hφ,h⟩:=h
  obtain ⟨hd,hK⟩:=step h
  exact ⟨(tg,x),quiet hd fun G w ra hs hf hb=>opTo_gives (sem G w ra hs hf (hφ hb)),hK⟩
 |call φ g xs=>
  have h:∃ x,(tgB tg=true→φ∧QCall c g xs t x)∧PutD n o.dst tg (fun f'=>D2 c n all t E1 E2 Q l f' a b) f x:=by
   cases tg with
   |sure=>obtain ⟨x,h1,h2⟩:=h;exact ⟨x,fun _=>h1 trivial,h2⟩
   |cond b=>obtain ⟨x,h1,h2⟩:=h;exact ⟨x,h1,h2⟩
  obtain ⟨x,hφ,h⟩:=h
  obtain ⟨hd,hK⟩:=step h
  refine ⟨(tg,x),quiet hd fun G w ra hs hf hb=>?_,hK⟩
  have hφ:=hφ hb
  obtain ⟨vs,hr,hx⟩:=sem G w ra hs hf hφ.1
  exact opTo_call hs hr hx hφ.2.out
 |look r k ihq=>
  obtain ⟨x,hx,h⟩:=h
  exact ihq x h fun G w ra hs hf=>sem G w ra hs hf x hx
/-- An operation that turns one part, whatever stands beside. -/
theorem turn_to {o:Oper} {m:HS} {K:HV→HS→Prop} {q:OpRes} (h:q.turns c m t K) (sem:∀ G w ra,SRel G (m ++ t) w→FRel G n (Fr.only (o.looksAt all) f) ra→ResOK c.P (m ++ t) G w ((execOp ra.eval o).run c.P w) q) :
  ∃ x m',K x m'∧∀ G w ra,SRel G (m ++ t) w→FRel G n (Fr.only (o.looksAt all) f) ra→OpTo c.P o ra w fun u w'=>∃ G',rel G' x u∧Post (m ++ t) G w (m' ++ t) G' w':=by
 induction q with
 |bad=>exact h.elim
 |pan φ x=>exact h.elim
 |pure x=>exact ⟨x,m,h,fun G w ra hs hf=>opTo_gives (sem G w ra hs hf)⟩
 |val φ x=>exact ⟨x,m,h.2,fun G w ra hs hf=>opTo_gives (sem G w ra hs hf h.1)⟩
 |eff W=>
  obtain ⟨x,m',hW,h⟩:=h
  refine ⟨x,m',h,fun G w ra hs hf=>?_⟩
  obtain ⟨y,s',⟨rfl,rfl⟩,hg⟩:=sem G w ra hs hf _ hW
  exact opTo_gives hg
 |call φ g xs=>
  obtain ⟨x,m',hW,h⟩:=h
  refine ⟨x,m',h,fun G w ra hs hf=>?_⟩
  obtain ⟨vs,hr,hx⟩:=sem G w ra hs hf hW.1
  exact opTo_call hs hr hx hW.2.out
 |look r k ihq=>
  obtain ⟨x,hx,h⟩:=h
  exact ihq x h fun G w ra hs hf=>sem G w ra hs hf x hx
theorem perm_side (a b t:HS):(a ++ t ++ b).Perm (a ++ b ++ t):=by
 rw [List.append_assoc,List.append_assoc]
 exact List.Perm.append_left a List.perm_append_comm
theorem perm_side2 (a b t:HS):(b ++ t ++ a).Perm (a ++ b ++ t):=by
 rw [List.append_assoc a]
 exact List.perm_append_comm
theorem D2.one {k:Nat} {l:List Nat} {o:Oper} (hk:all[k]? = some o) (h1:E1.contains k=true) (hact:active all f o=some .sure) {s:HS} (e:a ++ t=s)
  (h:TStp c n a t o.dst (fun f' a'=>D2 c n all t E1 E2 Q l f' a' b) (hop c o.op f s) f):D2 c n all t E1 E2 Q (k::l) f a b:=by
 subst e
 constructor
 simp only [text2,qOp2,hk,h1]
 obtain ⟨x,a',⟨f',hf',hK⟩,hto⟩:=turn_to (all:=all) (f:=f) (n:=n) (o:=o) h.out (fun G w ra hs hf=>d2_sem hs hf)
 obtain ⟨g1,g2⟩:=hput_get hf'
 refine ⟨(.sure,x),a',rfl,fun b=>⟨g2,fun G w ra hs hf=>⟨d2_want hact hf,fun _=>?_⟩⟩,g1 ▸ hK.out⟩
 have hs1:SRel G ((a ++ t) ++ b) w:=hs.permd (perm_side a b t).symm
 exact (hto G w ra (hs1.perm (List.sublist_append_left _ _)) hf.rel).mono fun u w' ⟨G',hr,hp⟩=>⟨G',hr,((Post.frame hs1 hp).permL (perm_side a b t)).permR (perm_side a' b t)⟩
theorem D2.two {k:Nat} {l:List Nat} {o:Oper} (hk:all[k]? = some o) (h1:E1.contains k=false) (h2:E2.contains k=true) (hact:active all f o=some .sure) {s:HS} (e:b ++ t=s)
  (h:TStp c n b t o.dst (fun f' b'=>D2 c n all t E1 E2 Q l f' a b') (hop c o.op f s) f):D2 c n all t E1 E2 Q (k::l) f a b:=by
 subst e
 constructor
 simp only [text2,qOp2,hk,h1,h2]
 obtain ⟨x,b',⟨f',hf',hK⟩,hto⟩:=turn_to (all:=all) (f:=f) (n:=n) (o:=o) h.out (fun G w ra hs hf=>d2_sem hs hf)
 obtain ⟨g1,g2⟩:=hput_get hf'
 refine ⟨(.sure,x),b',rfl,fun a=>⟨g2,fun G w ra hs hf=>⟨d2_want hact hf,fun _=>?_⟩⟩,g1 ▸ hK.out⟩
 have hs1:SRel G ((b ++ t) ++ a) w:=hs.permd (perm_side2 a b t).symm
 exact (hto G w ra (hs1.perm (List.sublist_append_left _ _)) hf.rel).mono fun u w' ⟨G',hr,hp⟩=>⟨G',hr,((Post.frame hs1 hp).permL (perm_side2 a b t)).permR (perm_side2 a b' t)⟩
end
/-- A region whose order is drawn, with two parts that are turned. -/
theorem draw2 (c:Cx) {n id:Nat} {ops:Array Oper} {Q:HExit→Fr→HS→Prop} {f:Fr} {s:HS} (a b t:HS) (E1 E2 l:List Nat) (hp:(a ++ b ++ t).Perm s) (hl:l.length=ops.size) (hB:lex2 ops E1 E2 l (Array.replicate ops.size false)=true)
  (h:D2 c n ops t E1 E2 Q l f a b):DrawReg c.P n id ops Q f s:=
 ⟨⟨fun G w ra hs hf=>by
  have hs':SRel G (a ++ b ++ t) w:=hs.permd hp.symm
  refine wpB_region_any c.orders ?_
  have H:=wpAny2_lex c.P n ops t E1 E2 l _ _ _ _ hB h.out
  rw [hl] at H
  have hp0:Post (a ++ b ++ t) G w (a ++ b ++ t) G { w with drawn:=w.drawn+1}:=Post.drawn hs' rfl rfl rfl rfl
  refine wpAny_of_2 c.P n ops t E1 E2 hs' (fun g a' b' G' w' ra' hp' hf' ⟨f',e,hQ⟩=>?_) ops.size _ _ a b G _ ra hp0 ⟨hf.size,hf.defers,hf.slots⟩ H
  subst e
  exact ⟨.normal,f',a' ++ b' ++ t,G',hQ,trivial,⟨hf'.size,hf'.defers,hf'.slots⟩,hp'.permL hp⟩⟩⟩
end
end Go.Proofs.Hk

set_option linter.unusedVariables false
namespace Go.Proofs.Hk
noncomputable section
open Go
theorem relCs_swap {G:Ghost} {x y:HV} (hy:y.kd = .one) (h:∀ u,relC G x [u]→relC G y [u]):∀ {pre post:List HV} {us:List Value},relCs G (pre ++ x::post) us→relCs G (pre ++ y::post) us
 |[],post,us,k=>by
  simp only [List.nil_append,relCs] at k ⊢
  obtain ⟨u,us',e,⟨_,h1⟩,h2⟩:=k
  exact ⟨u,us',e,⟨hy,h u h1⟩,h2⟩
 |z::pre,post,us,k=>by
  simp only [List.cons_append,relCs] at k ⊢
  obtain ⟨u,us',e,h1,h2⟩:=k
  exact ⟨u,us',e,h1,relCs_swap hy h h2⟩
/-- A nil slice in a cell becomes a row of one's own. -/
theorem sem_cellOwn (c:Cx) {n:Nat} {code:Code} {Q:HExit→Fr→HS→Prop} {a:Fr} {s s0:HS} {t:TypeId} (r sz:Nat) (pre post:List HV) (hp:HPick s r (.cells (pre ++ .v (.slice none 0 0)::post) t) s0)
  (h:∀ q,q∉keys s→SemWp c.P n code Q a ((q,.tok 0)::(r,.cells (pre ++ .list (.own q 0) sz []::post) t)::s0)):SemWp c.P n code Q a s:=
 ⟨fun G w ra hs hf=>by
  obtain ⟨G',le,ht,P1⟩:=post_tok hs 0
  have hs1:=P1.srel
  have hpm:((G.lim,Res.tok 0)::(r,.cells (pre ++ .v (.slice none 0 0)::post) t)::s0).Perm ((G.lim,.tok 0)::s):=List.Perm.cons _ hp.perm
  have hs2:=hs1.permd hpm.symm
  have hs3:SRel G' ((G.lim,.tok 0)::(r,.cells (pre ++ .list (.own G.lim 0) sz []::post) t)::s0) w:=by
   refine ⟨hs2.kw,hs2.keys,fun q x hx=>?_,hs2.fresh,hs2.role⟩
   rcases List.mem_cons.1 hx with e|hx
   ·cases e;exact hs2.holds _ _ List.mem_cons_self
   ·rcases List.mem_cons.1 hx with e|hx
    ·cases e
     obtain ⟨b,vs,e1,ro,hh,hc,hK⟩:=hs2.holds r _ (List.mem_cons_of_mem _ List.mem_cons_self)
     refine ⟨b,vs,e1,ro,hh,relCs_swap rfl (fun u hu=>?_) hc,hK⟩
     simp only [relC,List.cons.injEq,and_true] at hu
     simp only [relC]
     exact .inl ⟨by first|rfl|exact True.intro,by rw [hu.1],⟨_,ht,Nat.zero_le _⟩⟩
    ·exact hs2.holds q x (List.mem_cons_of_mem _ (List.mem_cons_of_mem _ hx))
  have P2:Post s G w ((G.lim,.tok 0)::(r,.cells (pre ++ .list (.own G.lim 0) sz []::post) t)::s0) G' w:=⟨hs3,P1.ext,fun q hq=>P1.names q (by
   have e:keys ((G.lim,Res.tok 0)::(r,.cells (pre ++ .list (.own G.lim 0) sz []::post) t)::s0)=keys ((G.lim,Res.tok 0)::(r,.cells (pre ++ .v (.slice none 0 0)::post) t)::s0):=rfl
   rw [e] at hq
   obtain ⟨y,hy,rfl⟩:=List.mem_map.1 hq
   exact List.mem_map.2 ⟨y,hpm.mem_iff.1 hy,rfl⟩)⟩
  exact (h G.lim (fun hm=>by have:=hs.lt_key hm;omega)).lift hs P2 (hf.mono le)⟩
theorem TStp.callF {c:Cx} {n:Nat} {m m' t:HS} {dst:Option Tmp} {K:Fr→HS→Prop} {a:Fr} {φ:Prop} {f:FuncId} {xs:List HV} {x:HV} (hφ:φ) (h:HCalls c.P f xs m fun e s1=>e = .ret x∧s1=m') (k:PutD n dst .sure (fun a'=>K a' m') a x):TStp c n m t dst K (.call φ f xs) a:=
 TStp.call m' hφ (HCalls.use (t:=t) (R':=fun e st=>e = .ret x∧st=m' ++ t) h (.refl _) fun e s1 ⟨h1,h2⟩=>⟨h1,by rw [h2]⟩) k
theorem ToOwn.weak {P:Program} {f:FuncId} {xs:List HV} {s s2:HS} {sz:Nat} {l:List HV} (h:ToOwn P f xs s sz l s2):HCalls P f xs s fun e st=>e = .ret (.list .no sz l)∧st=s2:=
 HCalls.weaken h fun e s1 ⟨rt,h1,h2⟩=>⟨.ret (.list .no sz l),s2,by rw [h1];exact .ret (Weaker.tok _ _ _),by rw [h2];exact (Subp.refl _).skip _,rfl,rfl⟩
theorem draw2' (c:Cx) {n id:Nat} {ops:Array Oper} {Q:HExit→Fr→HS→Prop} {f:Fr} {s:HS} (a b:HS) {ab t:HS} (e:a ++ b=ab) (E1 E2 l:List Nat) (p:HTake s ab t) (hl:l.length=ops.size) (hB:lex2 ops E1 E2 l (Array.replicate ops.size false)=true)
  (h:D2 c n ops t E1 E2 Q l f a b):DrawReg c.P n id ops Q f s:=draw2 c a b t E1 E2 l (by rw [e];exact p.perm) hl hB h
structure PCallT (c:Cx) (o:Oper) (m t:HS) (x:HV) (m':HS) (a:Fr):Prop where
 out:∃ φ f xs,hop c o.op a (m ++ t) = .call φ f xs∧φ∧HCalls c.P f xs m fun e st=>e = .pan x∧st=m'
theorem PCallT.mk' {c:Cx} {o:Oper} {m t:HS} {x:HV} {m':HS} {a:Fr} {φ:Prop} {f:FuncId} {xs:List HV} (h:hop c o.op a (m ++ t) = .call φ f xs) (hφ:φ) (hc:HCalls c.P f xs m fun e st=>e = .pan x∧st=m'):PCallT c o m t x m' a:=⟨φ,f,xs,h,hφ,hc⟩
theorem drawPan' (c:Cx) {n id:Nat} {ops:Array Oper} {Q:HExit→Fr→HS→Prop} {a:Fr} {s:HS} (m m':HS) {t:HS} (p:Nat) (dead alive:List Nat) (S:List Tmp) (x:HV) {po:Oper} (pt:HTake s m t) (hpo:ops[p]? = some po)
  (hB:panB ops [] p dead S po=true) (hL:lexAl ops [] alive (marked p dead (Array.replicate ops.size false))=true) (hn:Nat.blt alive.length ops.size=true) (hd:dead.all (fun d=>Nat.blt d ops.size)=true)
  (h:DOpsL c n ops t (fun a'=>active ops a' po=some .sure∧PCallT c po m t x m' a') alive a) (hQ:forceL (m' ++ t) (Q (.pan x) (Fr.only S a))):DrawReg c.P n id ops Q a s:=by
 rw [forceL_eq] at hQ
 refine drawPan c m t p dead alive S x (m' ++ t) pt.perm hpo hB hL hn hd ?_ hQ
 have mono:∀ (F F':Fr→Prop),(∀ a,F a→F' a)→DOpsL c n ops t F alive a→DOpsL c n ops t F' alive a:=fun F F' hF ⟨h⟩=>⟨fun m=>by
  have:∀ (l:List Nat) (g:GF) (m0:HS) (A B:GF→HS→Prop),(∀ g m,A g m→B g m)→textAl c.P n ops t [] A l g m0→textAl c.P n ops t [] B l g m0:=by
   intro l
   induction l with
   |nil=>intro g m0 A B hab hh;exact hab _ _ hh
   |cons k l ih=>intro g m0 A B hab hh;exact qOpH_mono c.P n ops t [] (fun g m=>ih g m A B hab) hh
  exact this _ _ _ _ _ (fun g m1 ⟨e,a',hg,hf⟩=>⟨e,a',hg,hF _ hf⟩) (h m)⟩
 refine mono _ _ (fun a' ⟨h1,h2⟩=>⟨h1,?_⟩) h
 obtain ⟨φ,f,xs,k1,hφ,hc⟩:=h2.out
 exact ⟨φ,f,xs,m',k1,hφ,HCalls.use (t:=t) (R':=fun e st=>e = .pan x∧st=m' ++ t) hc (.refl _) fun e s1 ⟨g1,g2⟩=>⟨g1,by rw [g2]⟩,rfl⟩
/-- The same, by the contract of the call that panics. -/
theorem drawPanC (c:Cx) {n id:Nat} {ops:Array Oper} {Q:HExit→Fr→HS→Prop} {a:Fr} {s m m' t:HS} {f:FuncId} {xs:List HV} {x:HV} (p:Nat) (dead alive:List Nat) (S:List Tmp) (hc:HCalls c.P f xs m fun e st=>e = .pan x∧st=m') {po:Oper} (pt:HTake s m t) (hpo:ops[p]? = some po)
  (hB:panB ops [] p dead S po=true) (hL:lexAl ops [] alive (marked p dead (Array.replicate ops.size false))=true) (hn:Nat.blt alive.length ops.size=true) (hd:dead.all (fun d=>Nat.blt d ops.size)=true)
  (h:DOpsL c n ops t (fun a'=>active ops a' po=some .sure∧∃ φ,hop c po.op a' (m ++ t) = .call φ f xs∧φ) alive a) (hQ:forceL (m' ++ t) (Q (.pan x) (Fr.only S a))):DrawReg c.P n id ops Q a s:=by
 refine drawPan' c m m' p dead alive S x pt hpo hB hL hn hd ?_ hQ
 refine ⟨fun m0=>?_⟩
 have:∀ (l:List Nat) (g:GF) (m0:HS) (A B:GF→HS→Prop),(∀ g m,A g m→B g m)→textAl c.P n ops t [] A l g m0→textAl c.P n ops t [] B l g m0:=by
  intro l
  induction l with
  |nil=>intro g m0 A B hab hh;exact hab _ _ hh
  |cons k l ih=>intro g m0 A B hab hh;exact qOpH_mono c.P n ops t [] (fun g m=>ih g m A B hab) hh
 exact this _ _ _ _ _ (fun g m1 ⟨e,a',hg,h1,φ,h2,h3⟩=>⟨e,a',hg,h1,PCallT.mk' h2 h3 hc⟩) (h.out m0)
end
end Go.Proofs.Hk

set_option linter.unusedVariables false
namespace Go.Proofs.Hk
noncomputable section
open Go
/-- A call that reads the state and leaves it. -/
theorem QCall.st {c:Cx} {f:FuncId} {xs:List HV} {x:HV} {m t s:HS} (h:HCalls c.P f xs m fun e st=>e = .ret x∧st=m) (p:HTake s m t):QCall c f xs s x:=
 ⟨HCalls.weaken (HCalls.use (t:=t) (R':=fun e st=>e = .ret x∧st=m ++ t) h p.perm fun e s1 ⟨h1,h2⟩=>⟨h1,by rw [h2]⟩) fun e s1 ⟨h1,h2⟩=>⟨.ret x,s,by rw [h1];exact WeakerE.refl _,by rw [h2];exact ⟨s,p.perm.symm,.refl _⟩,rfl,rfl⟩⟩
theorem askS {c:Cx} {f:FuncId} {xs:List HV} {x:HV} {m u t:HS} {on:Prop} {φ:Prop} {K:HV→Prop} (h:HCalls c.P f xs m fun e st=>e = .ret x∧st=m) (p:HTake t m u) (hφ:on→φ) (hk:K x):QAsk on c f xs t φ K:=⟨x,fun h1=>⟨hφ h1,QCall.st h p⟩,hk⟩
theorem askSC {c:Cx} {f:FuncId} {xs:List HV} {x:HV} {m u t:HS} {b:Bool} {φ on off:Prop} {K:HV→Prop} (h:HCalls c.P f xs m fun e st=>e = .ret x∧st=m) (p:HTake t m u) (hφ:b=true→φ) (hk:K x):CallC c b f xs t φ K on off:=⟨.inl (askS h p hφ hk)⟩
end
end Go.Proofs.Hk

set_option linter.unusedVariables false
namespace Go.Proofs.Hk
noncomputable section
open Go
/-! Functions that defer one call. -/
theorem upon_gives0 {P:Program} {o:Oper} {ra:Act} {next:Act→World→Prop} {QR:Exit→Act→World→Prop} {r:Result Next} {u:Value} {w':World} (hy:Yields r u w') (h:next (ra.put o.dst u) w'):o.upon P ra next QR r:=by
 rcases hy with rfl|⟨rfl,rfl⟩
 ·exact h
 ·exact h
def doneR (s:HS) (G:Ghost) (w:World) (R:HEnd→HS→Prop):Ending→World→Prop:=fun e w'=>∃ he s' G',R he s'∧endRel G' he e∧Post s G w s' G' w'
/-- The rest of a function, ahead of its defer. -/
structure SemD (c:Cx) (fn:Func) (R:HEnd→HS→Prop) (code:Code) (a:Fr) (s:HS):Prop where
 out:∀ s0 G0 w0 G w ra,G.df=[]→SRel G0 s0 w0→Post s0 G0 w0 s G w→FRel G fn.ntmps a ra→code.wp c.P (bodyPostD c.P fn (doneR s0 G0 w0 R)) ra w
/-- What a function's results are, read out of a frame. -/
def ResQ (c:Cx) (rs:List ResultVar) (R:HEnd→HS→Prop) (a:Fr) (s:HS):Prop:=resG c a s rs fun xs=>Fin (R (.ret (tupOf xs)) s)
theorem resQ_ok {c:Cx} {fn:Func} {R:HEnd→HS→Prop} {a:Fr} {s:HS} {G:Ghost} {w:World} {ra:Act} (hs:SRel G s w) (hf:FRel G fn.ntmps a ra) (h:ResQ c fn.results.toList R a s) :
  ∃ v,(results fn ra.tmps).run c.P w = .ok v w∧∃ he,R he s∧endRel G he (.returned v):=by
 obtain ⟨us,xs,h1,h2,h3⟩:=resG_ok hs hf h
 have hus:=relVs_length h2
 have hrun:(fn.results.mapM (rdRes ra.tmps):Sem (Array Value)).run c.P w = .ok us.toArray w:=by
  rw [←Array.toArray_toList (xs:=fn.results),List.mapM_toArray,Sem.run_map]
  rw [h1];rfl
 have hres:(results fn ra.tmps).run c.P w = .ok (if h:us.toArray.size=1 then us.toArray[0] else .tuple us.toArray) w:=by
  rw [results_eq,Sem.run_bind,hrun]
  rfl
 match xs,h3,h2,hus with
 |[x],h3,h2,hus=>
  simp only [relVs_cons] at h2
  obtain ⟨u,us',rfl,hr1,hr2⟩:=h2
  simp only [relVs] at hr2
  subst hr2
  exact ⟨u,hres,_,h3.out,hr1⟩
 |[],h3,h2,hus=>
  simp only [relVs] at h2
  subst h2
  exact ⟨_,hres,_,h3.out,(show rel G (.tup []) (.tuple [].toArray) from tup_rel (by simp [relVs]))⟩
 |x::y::l,h3,h2,hus=>
  have hne:¬ us.toArray.size=1:=by simp at hus ⊢;omega
  rw [dif_neg hne] at hres
  exact ⟨_,hres,_,h3.out,tup_rel h2⟩
theorem sem_callsD (c:Cx) {f:FuncId} {fn:Func} {code:Code} {args:List HV} {a:Fr} {s:HS} {R:HEnd→HS→Prop} (hf:c.P.funcs[f]? = some fn) (hb:fn.body=some code) (hn:Nat.ble args.length fn.ntmps=true) (ha:initFr args 0=a)
  (h:SemD c fn R code a s):HCalls c.P f args s R:=
 HCalls.of_df fun G w vs hdf hs hargs=>by
  subst ha
  have hl:=relVs_length hargs
  have hn:=Nat.le_of_ble_eq_true hn
  have hsz:vs.size=args.length:=by simpa using hl
  refine calls_of_wp_defers hf hb (h.out s G w G w _ hdf hs (.refl hs) ⟨by simp;omega,hdf.symm,fun t g x e=>?_⟩)
  obtain ⟨rfl,i,rfl,hx⟩:=initFr_get args 0 t g x e
  obtain ⟨u,hu,hr⟩:=relVs_get hargs i x hx
  have hi:i < args.length:=(List.getElem?_eq_some_iff.1 hx).1
  refine ⟨by omega,?_⟩
  have:(vs ++ Array.replicate (fn.ntmps - vs.size) undef).getD (0+i) undef=u:=by
   rw [Nat.zero_add,Array.getD_eq_getD_getElem?,Array.getElem?_append_left (by omega)]
   have:vs[i]? = some u:=by simpa using hu
   rw [this];rfl
  rw [this]
  exact hr
/-- Ahead of the defer: a piece by the small rules. -/
structure SeqD (c:Cx) (fn:Func) (R:HEnd→HS→Prop) (y:Code) (e:HExit) (a:Fr) (s:HS):Prop where
 out:match e with
  |.normal=>SemD c fn R y a s
  |.ret=>ResQ c fn.results.toList R a s
  |.pan v=>R (.pan v) s
  |.exit _=>False
theorem semD_seq (c:Cx) {fn:Func} {R:HEnd→HS→Prop} {x y:Code} {a:Fr} {s:HS} (h:SemWp c.P fn.ntmps x (SeqD c fn R y) a s):SemD c fn R (.seq x y) a s:=
 ⟨fun s0 G0 w0 G w ra hdf hs0 hp hf=>wp_seq (wp_mono (h.out G w ra hp.srel hf).wp fun e ra' w' ⟨he,a',s',G',q,hr,hf',hp'⟩=>by
  have hd:ra'.defers=[]:=hf'.defers.trans (hp'.ext.le.df.trans hdf)
  have q:=q.out
  cases he with
  |normal=>
   cases e<;>first|exact hr.elim|skip
   exact q.out s0 G0 w0 G' w' ra' (hp'.ext.le.df.trans hdf) hs0 (hp.trans hs0 hp') hf'
  |ret=>
   cases e<;>first|exact hr.elim|skip
   obtain ⟨v,hv,he,hR,hend⟩:=resQ_ok hp'.srel hf' q
   show Leaves _ _ _ _ ra'.defers .returning w'
   rw [hd]
   exact ⟨v,hv,he,s',G',hR,hend,hp.trans hs0 hp'⟩
  |pan v=>
   cases e<;>first|exact hr.elim|skip
   show Leaves _ _ _ _ ra'.defers (.panicking _) w'
   rw [hd]
   exact ⟨.pan v,s',G',q,hr,hp.trans hs0 hp'⟩
  |exit i=>exact q.elim)⟩
theorem SeqD.go {c:Cx} {fn:Func} {R:HEnd→HS→Prop} {y:Code} {a:Fr} {s:HS} (h:SemD c fn R y a s):SeqD c fn R y .normal a s:=⟨h⟩
theorem SeqD.ret {c:Cx} {fn:Func} {R:HEnd→HS→Prop} {y:Code} {a:Fr} {s:HS} (h:ResG c a s fn.results.toList fun xs=>Fin (R (.ret (tupOf xs)) s)):SeqD c fn R y .ret a s:=⟨h.out⟩
theorem SeqD.id {c:Cx} {fn:Func} {R:HEnd→HS→Prop} {y:Code} {e:HExit} {a:Fr} {s:HS} (h:SeqD c fn R y e a s):SeqD c fn R y e a s:=h
theorem semD_assoc (c:Cx) {fn:Func} {R:HEnd→HS→Prop} {x y:Code} {a:Fr} {s:HS} (h:SemWp c.P fn.ntmps x (SeqD c fn R y) a s):SemD c fn R (.seq x y) a s:=semD_seq c h
/-- A deferred call as the function returns, and as it panics. -/
structure DRet (c:Cx) (g:FuncId) (xs:List HV) (s s':HS):Prop where
 out:∀ G w vs,SRel G s w→relVs G xs vs.toList→CallsD c.P g vs .returning w fun e u w'=>(∃ v,e = .returned v)∧u = .returning∧∃ G',Post s G w s' G' w'
structure DPan (c:Cx) (g:FuncId) (xs:List HV) (v:HV) (s s':HS):Prop where
 out:∀ G w vs u,SRel G s w→relVs G xs vs.toList→rel G v u→CallsD c.P g vs (.panicking [{ v:=u,recovered:=false}]) w fun e u' w'=>(∃ v,e = .returned v)∧(∃ z,u' = .panicking [{ v:=z,recovered:=true}])∧∃ G',Post s G w s' G' w'
/-- The end of a function that has deferred a call. -/
structure EndD (c:Cx) (fn:Func) (R:HEnd→HS→Prop) (g:FuncId) (xs:List HV) (e:HExit) (a:Fr) (s:HS):Prop where
 out:match e with
  |.pan v=>∃ s',DPan c g xs v s s'∧ResQ c fn.results.toList R a s'
  |.exit _=>False
  |_=>∃ s',DRet c g xs s s'∧ResQ c fn.results.toList R a s'
theorem EndD.id {c:Cx} {fn:Func} {R:HEnd→HS→Prop} {g:FuncId} {xs:List HV} {e:HExit} {a:Fr} {s:HS} (h:EndD c fn R g xs e a s):EndD c fn R g xs e a s:=h
theorem EndD.ret {c:Cx} {fn:Func} {R:HEnd→HS→Prop} {g:FuncId} {xs:List HV} {a:Fr} {s:HS} (s':HS) (h:DRet c g xs s s') (k:ResG c a s' fn.results.toList fun xs=>Fin (R (.ret (tupOf xs)) s')):EndD c fn R g xs .ret a s:=⟨s',h,k.out⟩
theorem EndD.pan {c:Cx} {fn:Func} {R:HEnd→HS→Prop} {g:FuncId} {xs:List HV} {v:HV} {a:Fr} {s:HS} (s':HS) (h:DPan c g xs v s s') (k:ResG c a s' fn.results.toList fun xs=>Fin (R (.ret (tupOf xs)) s')):EndD c fn R g xs (.pan v) a s:=⟨s',h,k.out⟩
theorem FRel.df {G:Ghost} {n:Nat} {a:Fr} {ra:Act} (h:FRel G n a ra) (D:List Deferred):FRel (G.on D) n a { ra with defers:=D}:=
 ⟨h.size,rfl,fun t g x e=>⟨(h.slots t g x e).1,by
  have k:=(h.slots t g x e).2
  cases g with
  |sure=>exact rel.mono0 (G.on_le D) k
  |cond b=>exact ⟨fun hb=>(k.1 hb).mono0 (G.on_le D),k.2⟩⟩⟩
theorem semD_defer (c:Cx) {fn:Func} {R:HEnd→HS→Prop} {id:Nat} {o1 o2:Oper} {rest:Code} {a a':Fr} {s:HS} (t:Tmp) {g:FuncId} {fi ca:List HV} {cl:Call}
  (ha1:active #[o1,o2] a o1=some .sure) (hx:hop c o1.op a s = .pure (.fn (.func g) fi ca)) (hp1:hput fn.ntmps o1.dst .sure (.fn (.func g) fi ca) a=some a')
  (ha2:active #[o1,o2] a' o2=some .sure) (ho2:o2.op = .defer cl) (hcl:cl.callee = .value (.tmp t)) (hca:cl.args = #[]) (hd2:o2.dst=none) (hg:a'.get t=some (.sure,.fn (.func g) fi ca)) (hk:c.fn g=true)
  (h:SemWp c.P fn.ntmps rest (EndD c fn R g (fi ++ ca)) a' s):SemD c fn R (.seq (.region id #[o1,o2] false) rest) a s:=
 ⟨fun s0 G0 w0 G w ra hdf hs0 hp hf=>by
  refine wp_seq (wp_region ?_)
  show wpOps c.P #[o1,o2] _ [0,1] ra w
  have hw1:=active_ok hf ha1
  have hsem:=hop_ok c hp.srel hf o1
  rw [hx] at hsem
  obtain ⟨u,w',G',hy,hr,hp'⟩:=hsem
  have hf1:=(hf.mono hp'.ext.le).put (u:=u) hp1 hr
  have hw2:=active_ok hf1 ha2
  simp only [wpOps,show (#[o1,o2]:Array Oper)[0]? = some o1 from rfl,show (#[o1,o2]:Array Oper)[1]? = some o2 from rfl]
  simp only [] at hw1 hw2
  rw [hw1]
  simp only [if_true]
  refine .inl (upon_gives0 hy ?_)
  rw [hw2]
  simp only [if_true]
  refine .inl ?_
  obtain ⟨_,hv⟩:=hf1.slots t _ _ hg
  have hv:rel G' (.fn (.func g) fi ca) ((ra.put o1.dst u).tmps.getD t undef):=hv
  obtain ⟨A,B,hAB,h1,h2⟩:=rel_fn hv
  obtain ⟨cal,cargs,cts⟩:=cl
  simp only at hcl hca
  subst hcl hca
  obtain ⟨dn,hdn,hbn,hnn⟩:=c.fn_ok g hk
  have hn':¬ dn.name = "runtime.NumGoroutine":=by simpa using hnn
  have hb':¬ dn.body=none:=by intro e;rw [e] at hbn;cases hbn
  have hev:(ra.put o1.dst u).eval (.tmp t) = .func (.func g) A B:=by rw [←hAB];rfl
  have hrun:(execOp (ra.put o1.dst u).eval o2).run c.P w' = .ok (.defer { target:=.fn (.func g) B,args:=A ++ #[]}) w':=by
   simp [execOp,ho2,resolve,hev,Deferred.ofValue,Sem.run]
  have hinv:∀ w,(invoke (.fn (.func g) B) (A ++ #[])).run c.P w = .ok (.enter g (A ++ #[] ++ B)) w:=fun w=>by
   simp [invoke,callFunc,program,Sem.run,hdn,hn',hb']
  unfold Oper.wp
  rw [hrun,Oper.upon_defer,hd2]
  have hdf1:(ra.put o1.dst u).defers=[]:=hf1.defers.trans (hp'.ext.le.df.trans hdf)
  generalize hra:ra.put o1.dst u=r1 at *
  generalize hd:({ target:=.fn (.func g) B,args:=A ++ #[]} : Deferred)=d at *
  show rest.wp c.P _ { r1 with defers:=d::r1.defers} w'
  rw [hdf1]
  have hvs:relVs G' (fi ++ ca) (A ++ #[] ++ B).toList:=by simpa using relVs_append h1 h2
  refine wp_mono (h.out (G'.on [d]) w' _ (hp'.srel.on [d]) (hf1.df [d])).wp fun e ra2 w2 ⟨he,a2,s2,G2,q,hr2,hf2,hp2⟩=>?_
  have hd2':ra2.defers=[d]:=hf2.defers.trans (hp2.ext.le.df)
  have hvs2:relVs G2 (fi ++ ca) (A ++ #[] ++ B).toList:=relVs.mono0 hp2.ext.le.to0 _ _ (relVs.mono0 (G'.on_le [d]) _ _ hvs)
  have fin:∀ {s3:HS} {G3:Ghost} {w3:World},Post s2 G2 w2 s3 G3 w3→ResQ c fn.results.toList R a2 s3→Leaves c.P fn ra2.tmps (doneR s0 G0 w0 R) [] .returning w3:=fun {s3 G3 w3} hp3 hq=>by
   obtain ⟨v,hv,he,hR,hend⟩:=resQ_ok hp3.srel (hf2.mono hp3.ext.le) hq
   exact ⟨v,hv,he,s3,G3.on G'.df,hR,hend.on _,hp.trans hs0 (hp'.trans hp.srel (hp2.trans (hp'.srel.on [d]) hp3).on)⟩
  have q:=q.out
  have ret:(∃ s',DRet c g (fi ++ ca) s2 s'∧ResQ c fn.results.toList R a2 s')→Leaves c.P fn ra2.tmps (doneR s0 G0 w0 R) ra2.defers .returning w2:=fun ⟨s3,hD,hq⟩=>by
   rw [hd2',←hd]
   refine leaves_cons (by intro e;cases e) (hinv w2) ((hD.out G2 w2 _ hp2.srel hvs2).mono fun e u' w3 ⟨⟨v,e1⟩,e2,G3,hp3⟩=>?_)
   subst e1 e2
   exact fin hp3 hq
  cases he with
  |normal=>
   cases e<;>first|exact hr2.elim|skip
   exact ret q
  |ret=>
   cases e<;>first|exact hr2.elim|skip
   exact ret q
  |pan v=>
   cases e<;>first|exact hr2.elim|skip
   obtain ⟨u2,hch,hu2⟩:=hr2
   obtain ⟨s3,hD,hq⟩:=q
   subst hch
   show Leaves c.P fn ra2.tmps (doneR s0 G0 w0 R) ra2.defers _ w2
   rw [hd2',←hd]
   refine leaves_cons (by intro e;cases e) (hinv w2) ((hD.out G2 w2 _ u2 hp2.srel hvs2 hu2).mono fun e u' w3 ⟨⟨v,e1⟩,⟨z,e2⟩,G3,hp3⟩=>?_)
   subst e1 e2
   exact fin hp3 hq
  |exit i=>exact q.elim⟩
end
end Go.Proofs.Hk

set_option linter.unusedVariables false
set_option linter.unusedSimpArgs false
namespace Go.Proofs.Hk
noncomputable section
open Go
/-! A deferred closure that recovers: it asks whether there was a panic, and works in that case alone. -/
theorem recover_run {c:Cx} {G:Ghost} {o1:Oper} {ra:Act} {cl:Call} {w:World} (ho:o1.op = .call cl) (hc:cl.callee = .builtin .recover) (ha:cl.args = #[]):(execOp ra.eval o1).run c.P w = .ok .recover w:=by
 obtain ⟨ce,as',ts⟩:=cl
 simp only at hc ha
 subst hc ha
 simp [execOp,ho,resolve,invoke,builtin,Sem.run]
section
variable (c:Cx) {fn:Func} {g:FuncId} {id:Nat} {o1 o2:Oper} {X:Code} {xs:List HV} {s s':HS} {cl:Call} {t5:Tmp}
/-- What the ask comes to. -/
theorem ask_ok {b:Bool} {v:HV} {a1 a2:Fr} {G:Ghost} {w:World} {ra:Act} {u:Value} {cs cs':List Frame} {Q:Exit→Act→List Frame→World→Prop} (hs:SRel G s w)
  (hf:FRel G fn.ntmps (initFr xs 0) ra) (ho1:o1.op = .call cl) (hc:cl.callee = .builtin .recover) (ha:cl.args = #[]) (hact1:active #[o1,o2] (initFr xs 0) o1=some .sure)
  (hp1:hput fn.ntmps o1.dst .sure v (initFr xs 0)=some a1) (hu:rel G v u) (hrec:(match recoverD cs with|some (v,cs')=>(v,cs')|none=>(.nilIface,cs))=(u,cs'))
  (hact2:active #[o1,o2] a1 o2=some .sure) (hx2:hop c o2.op a1 s = .pure (.v (.bool b))) (hp2:hput fn.ntmps o2.dst .sure (.v (.bool b)) a1=some a2)
  (k:∀ G' w' ra',Post s G w s G' w'→FRel G' fn.ntmps a2 ra'→Q .normal ra' cs' w'):wpOpsS c.P #[o1,o2] Q [0,1] ra cs w:=by
 have hw1:=active_ok hf hact1
 have hf1:=hf.put (u:=u) hp1 hu
 have hw2:=active_ok hf1 hact2
 have hsem:=hop_ok c hs hf1 o2
 rw [hx2] at hsem
 obtain ⟨u2,w',G',hy,hr,hp'⟩:=hsem
 have hf2:=(hf1.mono hp'.ext.le).put (u:=u2) hp2 hr
 have key:wpOpsS c.P #[o1,o2] Q [1] (ra.put o1.dst u) cs' w:=by
  simp only [wpOpsS,show (#[o1,o2]:Array Oper)[1]? = some o2 from rfl]
  simp only [] at hw2
  rw [hw2]
  simp only [if_true]
  rcases hy with hy|⟨hy,rfl⟩
  ·rw [hy]
   exact k G' w' _ hp' hf2
  ·rw [hy]
   exact k G' w' _ hp' hf2
 unfold wpOpsS
 simp only [show (#[o1,o2]:Array Oper)[0]? = some o1 from rfl]
 simp only [] at hw1
 rw [hw1]
 simp only [if_true]
 rw [recover_run (c:=c) (G:=G) ho1 hc ha]
 simp only []
 cases hd:recoverD cs with
 |none=>
  rw [hd] at hrec
  simp only [Prod.mk.injEq] at hrec
  obtain ⟨rfl,rfl⟩:=hrec
  exact key
 |some p=>
  obtain ⟨v',cs''⟩:=p
  rw [hd] at hrec
  simp only [Prod.mk.injEq] at hrec
  obtain ⟨rfl,rfl⟩:=hrec
  exact key
theorem init_rel {c:Cx} {G:Ghost} {w:World} {vs:Array Value} {n:Nat} (hdf:G.df=[]) (hargs:relVs G xs vs.toList) (hn:Nat.ble xs.length n=true):FRel G n (initFr xs 0) { tmps:=vs ++ Array.replicate (n - vs.size) undef,defers:=[]}:=by
 have hl:=relVs_length hargs
 have hn:=Nat.le_of_ble_eq_true hn
 have hsz:vs.size=xs.length:=by simpa using hl
 refine ⟨by simp;omega,hdf.symm,fun t g x e=>?_⟩
 obtain ⟨rfl,i,rfl,hx⟩:=initFr_get xs 0 t g x e
 obtain ⟨u,hu,hr⟩:=relVs_get hargs i x hx
 have hi:i < xs.length:=(List.getElem?_eq_some_iff.1 hx).1
 refine ⟨by omega,?_⟩
 have:(vs ++ Array.replicate (n - vs.size) undef).getD (0+i) undef=u:=by
  rw [Nat.zero_add,Array.getD_eq_getD_getElem?,Array.getElem?_append_left (by omega)]
  have:vs[i]? = some u:=by simpa using hu
  rw [this];rfl
 rw [this]
 exact hr
theorem dret_rec (hfn:c.P.funcs[g]? = some fn) (hb:fn.body=some (.seq (.region id #[o1,o2] false) (.cond (.tmp t5) X .skip))) (hres:fn.results = #[]) (hn:Nat.ble xs.length fn.ntmps=true) {a1 a2:Fr}
  (ho1:o1.op = .call cl) (hc:cl.callee = .builtin .recover) (ha:cl.args = #[]) (hact1:active #[o1,o2] (initFr xs 0) o1=some .sure)
  (hp1:hput fn.ntmps o1.dst .sure (.v .nilIface) (initFr xs 0)=some a1)
  (hact2:active #[o1,o2] a1 o2=some .sure) (hx2:hop c o2.op a1 s = .pure (.v (.bool false))) (hp2:hput fn.ntmps o2.dst .sure (.v (.bool false)) a1=some a2) (hg:a2.get t5=some (.sure,.v (.bool false))):DRet c g xs s s:=
 ⟨fun G w vs hs hargs=>callsD_of_wpS hfn hb fun c0 cs hc0=>by
  have hs1:=hs.on []
  have ha1:relVs (G.on []) xs vs.toList:=relVs.mono0 (G.on_le []) _ _ hargs
  refine wpS_seq (wpS_region ?_)
  show wpOpsS c.P #[o1,o2] _ [0,1] _ _ _
  refine ask_ok c hs1 (init_rel (c:=c) (w:=w) rfl ha1 hn) ho1 hc ha hact1 hp1 (rel_v _) (cs':=c0::cs) (by simp [recoverD,hc0]) hact2 hx2 hp2 fun G' w' ra' hp hf=>?_
  refine wpS_cond (t:=false) ?_ ?_
  ·obtain ⟨_,hv⟩:=hf.slots t5 _ _ hg
   exact rel_v_eq (show rel G' (.v (.bool false)) (ra'.tmps.getD t5 undef) from hv)
  ·refine wpS_of_wp (wp_skip ?_)
   refine ⟨hf.defers.trans hp.ext.le.df,.returning,by rw [←hc0],.tuple #[],by rw [results_eq,hres];simp,⟨_,rfl⟩,rfl,G'.on G.df,hp.on⟩⟩
theorem dpan_rec (hfn:c.P.funcs[g]? = some fn) (hb:fn.body=some (.seq (.region id #[o1,o2] false) (.cond (.tmp t5) X .skip))) (hres:fn.results = #[]) (hn:Nat.ble xs.length fn.ntmps=true) {v:HV} {a1 a2:Fr}
  (ho1:o1.op = .call cl) (hc:cl.callee = .builtin .recover) (ha:cl.args = #[]) (hact1:active #[o1,o2] (initFr xs 0) o1=some .sure)
  (hp1:hput fn.ntmps o1.dst .sure v (initFr xs 0)=some a1)
  (hact2:active #[o1,o2] a1 o2=some .sure) (hx2:hop c o2.op a1 s = .pure (.v (.bool true))) (hp2:hput fn.ntmps o2.dst .sure (.v (.bool true)) a1=some a2) (hg:a2.get t5=some (.sure,.v (.bool true)))
  (h:SemWp c.P fn.ntmps X (fun e _ s1=>Fin (e = .normal∧Subp s' s1)) a2 s):DPan c g xs v s s':=
 ⟨fun G w vs u hs hargs hu=>callsD_of_wpS hfn hb fun c0 cs hc0=>by
  have hs1:=hs.on []
  have ha1:relVs (G.on []) xs vs.toList:=relVs.mono0 (G.on_le []) _ _ hargs
  refine wpS_seq (wpS_region ?_)
  show wpOpsS c.P #[o1,o2] _ [0,1] _ _ _
  refine ask_ok c hs1 (init_rel (c:=c) (w:=w) rfl ha1 hn) ho1 hc ha hact1 hp1 (rel.mono0 (G.on_le []) hu) (cs':={ c0 with mode:=.panicking [{ v:=u,recovered:=true}]}::cs) (by simp [recoverD,hc0]) hact2 hx2 hp2 fun G' w' ra' hp hf=>?_
  refine wpS_cond (t:=true) ?_ ?_
  ·obtain ⟨_,hv⟩:=hf.slots t5 _ _ hg
   exact rel_v_eq (show rel G' (.v (.bool true)) (ra'.tmps.getD t5 undef) from hv)
  ·refine wpS_of_wp (wp_mono (h.out G' w' ra' hp.srel hf).wp fun e ra2 w2 ⟨he,a3,s3,G3,q,hr,hf3,hp3⟩=>?_)
   obtain ⟨rfl,hsub⟩:=q.out
   cases e<;>first|exact hr.elim|skip
   obtain ⟨s4,q1,q2⟩:=hsub
   refine ⟨hf3.defers.trans (hp3.ext.le.df.trans hp.ext.le.df),_,rfl,.tuple #[],by rw [results_eq,hres];simp,⟨_,rfl⟩,⟨_,rfl⟩,G3.on G.df,?_⟩
   have hpp:Post s (G.on []) w s3 G3 w2:=hp.trans hs1 hp3
   refine (hpp.sub ?_ fun x hx=>(q1.mem_iff.1 (q2.subset hx))).on
   exact List.Nodup.sublist (q2.map _) ((q1.map _).nodup_iff.2 hpp.srel.keys)⟩
end
end
end Go.Proofs.Hk

namespace Go.Proofs.Hk
noncomputable section
open Go
theorem DPan.frame {c:Cx} {g:FuncId} {xs:List HV} {v:HV} {S s s' t:HS} (h:DPan c g xs v s s') (p:HTake S s t):DPan c g xs v S (s' ++ t):=
 ⟨fun G w vs u hs hargs hu=>by
  have hs1:=hs.permd p.perm.symm
  exact (h.out G w vs u (hs1.perm (List.sublist_append_left s t)) hargs hu).mono fun e u' w' ⟨h1,h2,G',h3⟩=>⟨h1,h2,G',(Post.frame hs1 h3).permL p.perm⟩⟩
theorem DRet.frame {c:Cx} {g:FuncId} {xs:List HV} {S s s' t:HS} (h:DRet c g xs s s') (p:HTake S s t):DRet c g xs S (s' ++ t):=
 ⟨fun G w vs hs hargs=>by
  have hs1:=hs.permd p.perm.symm
  exact (h.out G w vs (hs1.perm (List.sublist_append_left s t)) hargs).mono fun e u' w' ⟨h1,h2,G',h3⟩=>⟨h1,h2,G',(Post.frame hs1 h3).permL p.perm⟩⟩
end
end Go.Proofs.Hk

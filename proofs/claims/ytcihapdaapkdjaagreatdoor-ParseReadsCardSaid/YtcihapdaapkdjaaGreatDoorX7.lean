import Derived.Test.YtcihapdaapkdjaaGreatDoorX5
import Derived.Test.YtcihapdaapkdjaaGreatDoorH41
import Derived.Test.YtcihapdaapkdjaaGreatDoorQ15d
set_option linter.unusedSimpArgs false
set_option linter.unusedVariables false
set_option maxRecDepth 4000
namespace Go.Proofs.Hk
open Go Go.Proofs
/-! Contracts of one form, before an error and behind one. -/
structure St (α:Type) where
 v:α
 j:Nat
 e:Int
 a:Int
structure Rel {α:Type} (l:List Tk) (r:Res' α) (i:Nat) (e a:Int) (g:St α):Prop where
 lt:g.j < l.length
 le:i≤g.j
 good:e=0→match r with
  |some (.ok (x,m))=>g=⟨x,m,0,a⟩
  |some (.error (c,m,_))=>¬ c=0∧g.j=m∧g.e=c∧g.a=(tk l m).pos
  |none=>False
 bad:¬ e=0→g.j=i∧g.e=e∧g.a=a
theorem Rel.ok {α:Type} {l:List Tk} {i:Nat} (hi:i < l.length) (x:α) (e a:Int):Rel l (okR x i) i e a ⟨x,i,e,a⟩:=
 ⟨hi,Nat.le_refl _,fun h=>by subst h;rfl,fun _=>⟨rfl,rfl,rfl⟩⟩
theorem Rel.bind {α β:Type} {l:List Tk} {r:Res' α} {k:α→Nat→Res' β} {i:Nat} {e a:Int} {g1:St α} {g2:St β} (h1:Rel l r i e a g1) (h2:Rel l (k g1.v g1.j) g1.j g1.e g1.a g2):Rel l (bindR r k) i e a g2:=by
 refine ⟨h2.lt,Nat.le_trans h1.le h2.le,fun he=>?_,fun he=>?_⟩
 ·have k1:=h1.good he
  cases r with
  |none=>exact k1.elim
  |some r=>cases r with
   |ok x=>
    obtain ⟨x,m⟩:=x
    have k1:g1=⟨x,m,0,a⟩:=k1
    subst k1
    exact h2.good rfl
   |error x=>
    obtain ⟨c,m,d⟩:=x
    obtain ⟨c0,k2,k3,k4⟩:=k1
    have:=h2.bad (by rw [k3];exact c0)
    exact ⟨c0,by rw [this.1,k2],by rw [this.2.1,k3],by rw [this.2.2,k4]⟩
 ·obtain ⟨k1,k2,k3⟩:=h1.bad he
  obtain ⟨k4,k5,k6⟩:=h2.bad (by rw [k2];exact he)
  exact ⟨by rw [k4,k1],by rw [k5,k2],by rw [k6,k3]⟩
theorem Rel.ne {α β:Type} {l:List Tk} {r:Res' α} {k:α→Nat→Res' β} {i:Nat} {e a:Int} {g1:St α} (h1:Rel l r i e a g1) (h:e=0→bindR r k≠none) (h0:g1.e=0):k g1.v g1.j≠none:=by
 by_cases he:e=0
 ·have k1:=h1.good he
  have h:=h he
  cases r with
  |none=>exact k1.elim
  |some r=>cases r with
   |ok x=>
    obtain ⟨x,m⟩:=x
    have k1:g1=⟨x,m,0,a⟩:=k1
    subst k1
    exact h
   |error x=>
    obtain ⟨c,m,d⟩:=x
    exact absurd (k1.2.2.1.symm.trans h0) k1.1
 ·exact absurd ((h1.bad he).2.1.symm.trans h0) he
theorem bindR_ne0 {α β:Type} {r:Res' α} {k:α→Nat→Res' β} (h:bindR r k≠none):r≠none:=fun e=>h (by rw [e];rfl)
/-- A function that reads something. -/
structure XC {α:Type} (l:List Tk) (q:Nat) (d:Int) (fn:FuncId) (xs:List HV) (enc:α→HV) (P:Nat→Res' α):Prop where
 out:∀ (i:Nat) (e a:Int),i < l.length→(e=0→P i≠none)→HCalls cx.P fn (.ptr q 0::xs) [(q,rs l i d e a)] fun E st=>∃ g:St α,Rel l (P i) i e a g∧E = .ret (enc g.v)∧st=[(q,rs l g.j d g.e g.a)]
/-- From the two forms. -/
theorem XC.of {α:Type} {l:List Tk} {q:Nat} {d:Int} {fn:FuncId} {xs:List HV} {enc:α→HV} {P:Nat→Res' α} (v0:α) (hE:∀ i,i < l.length→ErrAt l i (P i)) (hF:∀ i x j,i < l.length→P i=some (.ok (x,j))→j < l.length∧i≤j)
  (h1:∀ i e a,i < l.length→¬ e=0→To fn (.ptr q 0::xs) [(q,rs l i d e a)] (.ret (enc v0)) [(q,rs l i d e a)])
  (h2:∀ i a x j,i < l.length→P i=some (.ok (x,j))→To fn (.ptr q 0::xs) [(q,rs l i d 0 a)] (.ret (enc x)) [(q,rs l j d 0 a)])
  (h3:∀ i a c j d',i < l.length→P i=some (.error (c,j,d'))→HCalls cx.P fn (.ptr q 0::xs) [(q,rs l i d 0 a)] fun E st=>∃ g:α,True∧E = .ret (enc g)∧st=[(q,rs l j d c (tk l j).pos)]):XC l q d fn xs enc P:=by
 refine ⟨fun i e a hi hn=>?_⟩
 by_cases he:e=0
 ·subst he
  have k:=hE i hi
  cases hb:P i with
  |none=>exact absurd hb (hn rfl)
  |some r=>cases r with
   |ok x=>
    obtain ⟨x,j⟩:=x
    obtain ⟨f1,f2⟩:=hF i x j hi hb
    exact HCalls.mono (h2 i a x j hi hb) fun E st ⟨g1,g2⟩=>⟨⟨x,j,0,a⟩,⟨f1,f2,fun _=>rfl,fun h=>absurd rfl h⟩,g1,g2⟩
   |error x=>
    obtain ⟨c,j,d'⟩:=x
    rw [hb] at k
    obtain ⟨f1,f2,f3⟩:=k _ _ _ rfl
    exact (h3 i a c j d' hi hb).mono fun E st ⟨g,_,g1,g2⟩=>⟨⟨g,j,c,(tk l j).pos⟩,⟨f1,f2,fun _=>⟨by omega,rfl,rfl,rfl⟩,fun h=>absurd rfl h⟩,g1,g2⟩
 ·exact HCalls.mono (h1 i e a hi he) fun E st ⟨g1,g2⟩=>⟨⟨v0,i,e,a⟩,⟨hi,Nat.le_refl _,fun h=>absurd h he,fun _=>⟨rfl,rfl,rfl⟩⟩,g1,g2⟩
abbrev encU (_:Unit):HV:=.tup []
theorem want_x (l:List Tk) (wf:WfT l) (q:Nat) (d:Int) (s:ByteArray):XC l q d 35 [ss s] encU (pMust l s d):=by
 refine XC.of () (fun i hi=>pMust_err hi) (fun i x j hi h=>(by have:=pMust_facts wf hi h;omega)) (fun i e a hi he=>rwant_er q l i d e a s hi he) (fun i a x j hi h=>?_) fun i a c j d' hi h=>?_
 ·obtain ⟨k,rfl⟩:=pMust_ok h
  exact rwant_yes q l i d a s wf hi k
 ·unfold pMust at h
  split at h
  ·cases h
  ·rename_i k
   cases h
   exact HCalls.mono (rwant_no q l i d a s hi (Bool.eq_false_iff.2 k)) fun E st ⟨g1,g2⟩=>⟨(),trivial,g1,g2⟩
theorem name_x (l:List Tk) (wf:WfT l) (q:Nat) (d:Int):XC l q d 36 [] ss (pName l d):=by
 refine XC.of noS (fun i hi=>pName_err hi) (fun i x j hi h=>(by have:=pName_facts wf hi h;omega)) (fun i e a hi he=>rname_er q l i d e a hi he) (fun i a x j hi h=>?_) fun i a c j d' hi h=>?_
 ·obtain ⟨k,rfl,rfl⟩:=pName_ok h
  exact rname_yes q l i d a wf hi k
 ·unfold pName at h
  split at h
  ·cases h
  ·rename_i k
   cases h
   exact HCalls.mono (rname_no q l i d a hi k) fun E st ⟨g1,g2⟩=>⟨noS,trivial,g1,g2⟩
theorem args_x (l:List Tk) (wf:WfN l) (f q:Nat) (d:Int) (h0:0≤d) (h1:d≤50):XC l q d 61 [] LLNs (pArgs0 l f d):=by
 have wt:=wf.toWfT
 refine XC.of [] (fun i hi=>pArgs0_err wt hi) (fun i x j hi h=>(by have:=pArgs0_facts wt hi h;omega)) (fun i e a hi he=>rargs_er l q i d e a hi he) (fun i a x j hi h=>rargs_lvl l wf f q i d a _ hi h0 h1 h) fun i a c j d' hi h=>rargs_lvl l wf f q i d a _ hi h0 h1 h
theorem names_x (l:List Tk) (wf:WfN l) (f q:Nat) (d:Int) (h0:0≤d) (h1:d≤50):XC l q d 37 [] LSs' (pNames0 l f d):=by
 have wt:=wf.toWfT
 refine XC.of [] (fun i hi=>pNames0_err wt hi) (fun i x j hi h=>(by have:=pNames0_facts wt hi h;omega)) (fun i e a hi he=>rnames_er l q i d e a hi he) (fun i a x j hi h=>rnames_lvl l wf f q i d a _ hi h0 h1 h) fun i a c j d' hi h=>rnames_lvl l wf f q i d a _ hi h0 h1 h
def pEx (l:List Tk) (f:Nat) (lv:Lv) (d:Int) (i:Nat):Res' (List ND):=bindR (pE l f lv d i) fun e j=>okR (e.flat 0) j
theorem pEx_bind {α:Type} (l:List Tk) (f:Nat) (lv:Lv) (d:Int) (i:Nat) (k:List ND→Nat→Res' α):(bindR (pE l f lv d i) fun e j=>k (e.flat 0) j)=bindR (pEx l f lv d i) k:=by
 unfold pEx
 cases pE l f lv d i with
 |none=>rfl
 |some r=>cases r<;>rfl
theorem pEx_ok {l:List Tk} {f:Nat} {lv:Lv} {d:Int} {i:Nat} {x:List ND} {j:Nat} (h:pEx l f lv d i=some (.ok (x,j))):∃ e:Ex,pE l f lv d i=some (.ok (e,j))∧x=e.flat 0:=by
 unfold pEx at h
 obtain ⟨e,m,h1,h2⟩:=bindR_ok h
 cases h2
 exact ⟨e,h1,rfl⟩
theorem pEx_er {l:List Tk} {f:Nat} {lv:Lv} {d:Int} {i:Nat} {c:Int} {j:Nat} {d':Int} (h:pEx l f lv d i=some (.error (c,j,d'))):pE l f lv d i=some (.error (c,j,d')):=by
 unfold pEx at h
 cases hb:pE l f lv d i with
 |none=>rw [hb] at h;cases h
 |some r=>cases r with
  |ok x=>rw [hb] at h;cases h
  |error x=>rw [hb] at h;cases h;rfl
theorem node_x {l:List Tk} (wf:WfN l) {f q:Nat} {d:Int} {fn:FuncId} {lv:Lv} (hE:ErS fn l) (hN:∀ i a res,i < l.length→pE l f lv d i=some res→NiG l q i d a fn res):XC l q d fn [.v (.slice none 0 0)] LNs (pEx l f lv d):=by
 have wt:=wf.toWfT
 refine XC.of [] (fun i hi=>?_) (fun i x j hi h=>?_) (fun i e a hi he=>nie_of hE q i d e a hi he) (fun i a x j hi h=>?_) fun i a c j d' hi h=>?_
 ·exact (pE_err wt f lv d i hi).bind fun x j hx=>.ok
 ·obtain ⟨e,h1,rfl⟩:=pEx_ok h
  have:=pE_facts wt f lv d i e j hi h1
  omega
 ·obtain ⟨e,h1,rfl⟩:=pEx_ok h
  exact hN i a _ hi h1
 ·exact hN i a _ hi (pEx_er h)
theorem expr_x (l:List Tk) (wf:WfN l) (f q:Nat) (d:Int) (h0:0≤d) (h1:d≤50):XC l q d 62 [.v (.slice none 0 0)] LNs (pEx l f .expr d):=
 node_x wf (rexpr_er l) fun i a res hi h=>rex_nil l wf f q i d a res hi h0 h1 h
theorem cond_x (l:List Tk) (wf:WfN l) (f q:Nat) (d:Int) (h0:0≤d) (h1:d≤50):XC l q d 53 [.v (.slice none 0 0)] LNs (pEx l f .cond d):=
 node_x wf (rcond_er l) fun i a res hi h=>rco_nil l wf f q i d a res hi h0 h1 h
/-- An opening, one deeper behind it. -/
def pOpen (l:List Tk) (s:ByteArray) (d:Int) (i:Nat):Res' Unit:=if isT l i s=true then (if 50≤d then errR 5 i d else okR () (i+1)) else errR 4 i d
theorem open_x (l:List Tk) (wf:WfT l) (q:Nat) (s:ByteArray) (d:Int) (h0:0≤d) (h1:d≤50) (i:Nat) (e a:Int) (hi:i < l.length):HCalls cx.P 65 [.ptr q 0,ss s] [(q,rs l i d e a)] fun E st=>∃ g:St Unit,Rel l (pOpen l s d i) i e a g∧E = .ret (encU g.v)∧st=[(q,rs l g.j (d+1) g.e g.a)]:=by
 by_cases he:e=0
 ·subst he
  unfold pOpen
  cases b:isT l i s with
  |false=>
   exact HCalls.mono (ropen_no q l i d a s hi b h0 h1) fun E st ⟨g1,g2⟩=>⟨⟨(),i,4,(tk l i).pos⟩,⟨hi,Nat.le_refl _,fun _=>⟨by decide,rfl,rfl,rfl⟩,fun h=>absurd rfl h⟩,g1,g2⟩
  |true=>
   by_cases hd:50≤d
   ·rw [if_pos rfl,if_pos hd]
    exact HCalls.mono (ropen_deep q l i d a s hi b hd h1) fun E st ⟨g1,g2⟩=>⟨⟨(),i,5,(tk l i).pos⟩,⟨hi,Nat.le_refl _,fun _=>⟨by decide,rfl,rfl,rfl⟩,fun h=>absurd rfl h⟩,g1,g2⟩
   ·rw [if_pos rfl,if_neg hd]
    exact HCalls.mono (ropen_yes q l i d a s wf hi b hd h0) fun E st ⟨g1,g2⟩=>⟨⟨(),i+1,0,a⟩,⟨wf.more i hi (isT_kind b),Nat.le_succ _,fun _=>rfl,fun h=>absurd rfl h⟩,g1,g2⟩
 ·exact HCalls.mono (ropen_er q l i d e a s hi he h0 h1) fun E st ⟨g1,g2⟩=>⟨⟨(),i,e,a⟩,⟨hi,Nat.le_refl _,fun h=>absurd h he,fun _=>⟨rfl,rfl,rfl⟩⟩,g1,g2⟩
end Go.Proofs.Hk

set_option linter.unusedSimpArgs false
set_option linter.unusedVariables false
set_option maxRecDepth 4000
namespace Go.Proofs.Hk
open Go Go.Proofs
theorem Rel.from {α:Type} {l:List Tk} {r:Res' α} {i i':Nat} {a:Int} {g:St α} (h:Rel l r i 0 a g) (hi:i'≤i):Rel l r i' 0 a g:=⟨h.lt,Nat.le_trans hi h.le,h.good,fun h=>absurd rfl h⟩
theorem Rel.eq {α:Type} {l:List Tk} {r r':Res' α} {i:Nat} {e a:Int} {g:St α} (h:Rel l r i e a g) (hr:r'=r):Rel l r' i e a g:=hr ▸ h
theorem Rel.er {α:Type} {l:List Tk} {i j:Nat} {c d a:Int} (hj:j < l.length) (hi:i≤j) (hc:¬ c=0) (v:α):Rel l (errR c j d) i 0 a ⟨v,j,c,(tk l j).pos⟩:=⟨hj,hi,fun _=>⟨hc,rfl,rfl,rfl⟩,fun h=>absurd rfl h⟩
/-- What stands behind a name, by cases. -/
def pTail (l:List Tk) (d:Int) {α:Type} (r:Res' α) (mk:α→SD):Res' SD:=bindR (bindR r fun a m=>okR (mk a) m) fun s j=>bindR (pMust l (tc 59) d j) fun _ m=>okR s m
theorem pTail.rel {l:List Tk} {d:Int} {α:Type} {r:Res' α} {mk:α→SD} {i:Nat} {e a:Int} {g1:St α} {g2:St Unit} (h1:Rel l r i e a g1) (h2:Rel l (pMust l (tc 59) d g1.j) g1.j g1.e g1.a g2):Rel l (pTail l d r mk) i e a ⟨mk g1.v,g2.j,g2.e,g2.a⟩:=
 Rel.bind (g1:=⟨mk g1.v,g1.j,g1.e,g1.a⟩) (Rel.bind h1 (Rel.ok h1.lt _ _ _)) (Rel.bind h2 (Rel.ok h2.lt _ _ _))
theorem pTail.ne {l:List Tk} {d:Int} {α:Type} {r:Res' α} {mk:α→SD} (h:pTail l d r mk≠none):r≠none:=bindR_ne0 (bindR_ne0 h)
theorem pNamed_a {l:List Tk} {f:Nat} {n:ByteArray} {d:Int} {i:Nat} (b:isT l i (tc 40)=true):pNamed l f n d i=pTail l d (pArgs0 l f d (i+1)) fun a=>.mk 8 noS n [] a [] []:=by
 unfold pNamed pCall pMust ended
 rw [if_pos b,if_pos b]
 rfl
theorem pNamed_b {l:List Tk} {f:Nat} {n:ByteArray} {d:Int} {i:Nat} (b:isT l i (tc 40)=false) (b2:isT l i (tc 61)=false):pNamed l f n d i=errR 4 i d:=by
 unfold pNamed pMust
 rw [if_neg (by rw [b];exact Bool.false_ne_true),if_neg (by rw [b2];exact Bool.false_ne_true)]
 rfl
theorem pNamed_c {l:List Tk} {f:Nat} {n:ByteArray} {d:Int} {i:Nat} (b:isT l i (tc 40)=false) (b2:isT l i (tc 61)=true) (k:(tk l (i+1)).kind=1) (b3:isOpen l (i+2)=true):pNamed l f n d i=pTail l d (pArgs0 l f d (i+3)) fun a=>.mk 8 n (tk l (i+1)).text [] a [] []:=by
 have b4:isT l (i+2) (tc 40)=true:=by
  unfold isOpen at b3
  unfold isT
  simp only [Bool.and_eq_true] at b3
  rw [b3.1,b3.2]
  rfl
 unfold pNamed pCall
 rw [if_neg (by rw [b];exact Bool.false_ne_true),show pMust l (tc 61) d i=okR () (i+1) by unfold pMust;rw [if_pos b2]]
 show (if ((tk l (i+1)).kind == 1 && isOpen l (i+1+1))=true then _ else _)=_
 rw [if_pos (by rw [k,show i+1+1=i+2 from rfl,b3];rfl),show pMust l (tc 40) d (i+1+1)=okR () (i+3) by unfold pMust;rw [if_pos b4]]
 rfl
theorem pNamed_d {l:List Tk} {f:Nat} {n:ByteArray} {d:Int} {i:Nat} (b:isT l i (tc 40)=false) (b2:isT l i (tc 61)=true) (b3:((tk l (i+1)).kind == 1 && isOpen l (i+2))=false):pNamed l f n d i=pTail l d (pEx l f .expr d (i+1)) fun x=>sdE 1 n x:=by
 unfold pNamed ended pTail
 rw [if_neg (by rw [b];exact Bool.false_ne_true),show pMust l (tc 61) d i=okR () (i+1) by unfold pMust;rw [if_pos b2]]
 show (if ((tk l (i+1)).kind == 1 && isOpen l (i+1+1))=true then _ else _)=_
 rw [if_neg (by rw [show i+1+1=i+2 from rfl,b3];exact Bool.false_ne_true),pEx_bind l f .expr d (i+1) fun x m=>okR (sdE 1 n x) m]
theorem encSDn (k:Int) (n p:ByteArray) (e:List ND) (a:List (List ND)):encSD (.mk k n p e a [] []) = .agg [ii k,ss n,ss p,LNs e,LLNs a,LSDs [],LSDs []]:=by rw [encSDm]
/-- What named comes to. -/
abbrev Named (l:List Tk) (q i:Nat) (d a:Int) (r:Res' SD):Prop:=HCalls cx.P 52 [.ptr q 0] [(q,rs l i d 0 a)] fun E st=>∃ g:St SD,Rel l r (i+1) 0 a g∧E = .ret (encSD g.v)∧st=[(q,rs l g.j d g.e g.a)]
abbrev endN (l:List Tk) (q i:Nat) (d a:Int) (r:Res' SD) (e:HEnd) (st:HS):Prop:=∃ g:St SD,Rel l r (i+1) 0 a g∧WeakerE e (.ret (encSD g.v))∧Subp [(q,rs l g.j d g.e g.a)] st
set_option maxHeartbeats 4000000 in
theorem rn_a (l:List Tk) (wf:WfN l) (f q i:Nat) (d a:Int) (h0:0≤d) (h1:d≤50) (hi:i < l.length) (k1:(tk l i).kind=1) (b:isT l (i+1) (tc 40)=true) (hn:pNamed l f (tk l i).text d (i+1)≠none):Named l q i d a (pNamed l f (tk l i).text d (i+1)):=by
 have wt:=wf.toWfT
 have wl:=wt.len
 have hi1:=wt.more i hi (by omega)
 have hi2:=wt.more (i+1) hi1 (isT_kind b)
 rw [pNamed_a b] at hn ⊢
 have NM:=rname_yes q l i d a wt hi k1
 have T:=rtake_yes q l (i+1) d a (tc 40) wt hi1 b
 have AR:=(args_x l wf f q d h0 h1).out (i+2) 0 a hi2 (fun _=>pTail.ne hn)
 have W:=(want_x l wt q d (tc 59)).out
 generalize (tk l i).text=n at *
 have key:HCalls cx.P 52 [.ptr q 0] [(q,rs l i d 0 a)] (endN l q i d a (pTail l d (pArgs0 l f d (i+2)) fun a=>.mk 8 noS n [] a [] [])):=by
  unfold rs at *
  refine sem_calls' cx (fn:=Tryz.f52) rfl rfl rfl rfl ?_
  repeat' first|((with_reducible refine DrawReg.id ?_);refine drawX cx [[(_,.cells _ 41)],[(q,_)]] rfl [[5],[3]] [[1]] 3 1 [0,1,2] [4,5] (by repeat first|exact HTake.nil|(apply HTake.cons;focus (repeat first|exact HPick.hit|apply HPick.miss))) rfl rfl rfl (by decide +kernel) ?_)|(refine DX.quiet rfl rfl rfl rfl ?_;(conv=>arg 7;whnf))|(refine DX.read rfl rfl rfl rfl rfl rfl ?_;(conv=>arg 7;whnf))|(refine DN.quiet rfl rfl rfl rfl ?_;(conv=>arg 7;whnf))|(refine DN.turn rfl rfl rfl rfl rfl ?_;(conv=>arg 7;whnf))|(refine DX.nil ?_;refine DFam.call rfl rfl rfl rfl rfl rfl (AR) (fun g1 hg1=>?_))|(refine DN.nilF ?_;(conv=>whnf))|refine Ops.tag rfl ?_|(refine OpsT.go ?_;(conv=>arg 7;whnf))|refine Stp.pure rfl ?_|((with_reducible refine PutK.isSet ?_);refine PutK.st ?_)|refine PutK.mk' rfl ?_|refine Ops.nil ?_|refine DStp.pure rfl ?_|refine PutD.mk' rfl ?_|((with_reducible refine Look.id ?_);refine Look.at ?_;try (conv=>arg 7;whnf))|((with_reducible refine Side.id ?_);first|refine Side.auto ?_)|((with_reducible refine Br.id ?_);first|(with_reducible first|refine br_true rfl ?_))|((with_reducible refine SemWp.id ?_);first|refine sem_seq ?_|refine sem_region rfl ?_|refine sem_cond rfl ?_|refine sem_ret ?_|refine sem_draw ?_)|((with_reducible refine qThen.id ?_);first|refine qThen.go ?_|refine qThen.ret ?_)|refine Stp.look ?_|refine Stp.call ?_|refine Stp.eff ?_|refine DStp.valS ?_|refine DStp.look ?_|((with_reducible refine CallWp.id ?_);first|(refine callA cx (NM) ?_;(conv=>whnf))|(refine callA cx (T) ?_;(conv=>whnf))|(refine callX cx (W g1.j g1.e g1.a hg1.lt (fun _=>pMust_ne)) (fun g hg=>?_);(conv=>whnf)))|(refine newN (fun r hr=>?_);simp only [keys,List.nil_append,List.cons_append,List.map_cons,List.map_nil,List.mem_cons,List.not_mem_nil,not_or,or_false,not_false_eq_true] at hr;(repeat (obtain ⟨_,hr⟩:=hr)))|((with_reducible refine BodyR.id ?_);first|refine BodyR.ret ?_)|((with_reducible refine ResG.id ?_);first|refine ResG.cell rfl ?_|refine ResG.nil ?_)|((with_reducible refine LoadIs.id ?_);first|refine LoadIs.ag rfl rfl rfl ?_)|((with_reducible refine Upd.id ?_);first|(refine Upd.lit rfl ?_;(conv=>whnf)))|refine TStp.look ?_|refine TStp.upd [(_,.cells _ _)] rfl rfl (by repeat first|exact HsetIs.hit) ?_
  refine Fin.mk ⟨⟨.mk 8 noS n [] _ [] [],g.j,g.e,g.a⟩,(pTail.rel (by assumption) hg).from (by omega),by rw [encSDn];refine WeakerE.ret (Weaker.agg ?_);(repeat first|exact WeakerC.nil|refine WeakerC.cons ?_ rfl ?_|exact Weaker.refl _|exact Weaker.nil _|exact Weaker.tok _ _ _),Subp.tk⟩
 exact HCalls.toX key
set_option maxHeartbeats 4000000 in
theorem rn_b (l:List Tk) (wf:WfN l) (f q i:Nat) (d a:Int) (h0:0≤d) (h1:d≤50) (hi:i < l.length) (k1:(tk l i).kind=1) (b:isT l (i+1) (tc 40)=false) (b2:isT l (i+1) (tc 61)=false) (hn:pNamed l f (tk l i).text d (i+1)≠none):Named l q i d a (pNamed l f (tk l i).text d (i+1)):=by
 have wt:=wf.toWfT
 have wl:=wt.len
 have hi1:=wt.more i hi (by omega)
 have NM:=rname_yes q l i d a wt hi k1
 have T:=rtake_no q l (i+1) d a (tc 40) hi1 b
 rw [pNamed_b b b2]
 have ml:(l.map tokD).length=l.length:=by simp
 have W:=rwant_no q l (i+1) d a (tc 61) hi1 b2
 have EX:=nie_of (rexpr_er l) q (i+1) d 4 (tk l (i+1)).pos hi1 (by decide)
 have V:=rwant_er q l (i+1) d 4 (tk l (i+1)).pos (tc 59) hi1 (by decide)
 generalize (tk l i).text=n at *
 have R:=Rel.er (α:=SD) (c:=4) (d:=d) (a:=a) hi1 (Nat.le_refl _) (by decide) (.mk 1 n noS [] [] [] [])
 generalize ((tk l (i+1)).pos:Int)=p at *
 have key:HCalls cx.P 52 [.ptr q 0] [(q,rs l i d 0 a)] (endN l q i d a (errR 4 (i+1) d)):=by
  unfold rs at *
  refine sem_calls' cx (fn:=Tryz.f52) rfl rfl rfl rfl ?_
  repeat' first|((with_reducible refine DrawReg.id ?_);refine drawN cx [] rfl [] [] [0,1,2,3,4,5,6,7,8,9,10,11,12,13,14,15,16,17,18,19,20,21,22,23,24,25,26,27,28,29,30,31,32,33,34,35,36,37,38,39,40,41,42,43,44,45,46,47,48] (by repeat first|exact HTake.nil) rfl (by decide +kernel) ?_)|(refine DN.dead rfl rfl rfl rfl rfl ?_;skip)|(refine DN.quiet rfl rfl rfl rfl ?_;(conv=>arg 7;whnf))|(refine DN.nilF ?_;(conv=>whnf))|refine Ops.tag rfl ?_|(refine OpsT.go ?_;(conv=>arg 7;whnf))|refine Stp.pure rfl ?_|((with_reducible refine PutK.isSet ?_);refine PutK.st ?_)|refine PutK.mk' rfl ?_|refine Ops.nil ?_|(with_reducible first|refine DStp.andF ?_)|((with_reducible refine DStp.isEq ?_);first|refine DStp.eqF ?_)|refine DStp.pure rfl ?_|((with_reducible refine Look.id ?_);refine Look.at ?_;try (conv=>arg 7;whnf))|((with_reducible refine Side.id ?_);first|refine Side.auto ?_)|((with_reducible refine Br.id ?_);first|(with_reducible first|refine br_false rfl ?_))|((with_reducible refine SemWp.id ?_);first|refine sem_seq ?_|refine sem_region rfl ?_|refine sem_cond rfl ?_|refine sem_ret ?_|refine sem_skip ?_|refine sem_draw ?_)|((with_reducible refine qThen.id ?_);first|refine qThen.go ?_)|refine Stp.look ?_|refine Stp.call ?_|refine Stp.eff ?_|refine DStp.valS ?_|refine DStp.look ?_|((with_reducible refine CallWp.id ?_);first|(refine callA cx (NM) ?_;(conv=>whnf))|(refine callA cx (T) ?_;(conv=>whnf))|(refine callA cx (W) ?_;(conv=>whnf))|(refine callA cx (EX) ?_;(conv=>whnf))|(refine callA cx (V) ?_;(conv=>whnf)))|(refine newN (fun r hr=>?_);simp only [keys,List.nil_append,List.cons_append,List.map_cons,List.map_nil,List.mem_cons,List.not_mem_nil,not_or,or_false,not_false_eq_true] at hr;(repeat (obtain ⟨_,hr⟩:=hr)))|((with_reducible refine BodyR.id ?_);first|refine BodyR.ret ?_)|((with_reducible refine ResG.id ?_);first|refine ResG.cell rfl ?_|refine ResG.nil ?_)|((with_reducible refine LoadIs.id ?_);first|refine LoadIs.ag rfl rfl rfl ?_)|((with_reducible refine Upd.id ?_);first|(refine Upd.lit rfl ?_;(conv=>whnf)))
  refine Fin.mk ⟨_,R,by rw [encSDn];refine WeakerE.ret (Weaker.agg ?_);(repeat first|exact WeakerC.nil|refine WeakerC.cons ?_ rfl ?_|exact Weaker.refl _|exact Weaker.nil _|exact Weaker.tok _ _ _),Subp.tk⟩
 exact HCalls.toX key
set_option maxHeartbeats 4000000 in
theorem rn_c (l:List Tk) (wf:WfN l) (f q i:Nat) (d a:Int) (h0:0≤d) (h1:d≤50) (hi:i < l.length) (k1:(tk l i).kind=1) (b:isT l (i+1) (tc 40)=false) (b2:isT l (i+1) (tc 61)=true) (kk:(tk l (i+2)).kind=1) (b3:isOpen l (i+3)=true) (hn:pNamed l f (tk l i).text d (i+1)≠none):Named l q i d a (pNamed l f (tk l i).text d (i+1)):=by
 have wt:=wf.toWfT
 have wl:=wt.len
 have hi1:=wt.more i hi (by omega)
 have NM:=rname_yes q l i d a wt hi k1
 have T:=rtake_no q l (i+1) d a (tc 40) hi1 b
 rw [pNamed_c b b2 kk b3] at hn ⊢
 have hi2:=wt.more (i+1) hi1 (isT_kind b2)
 have ml:(l.map tokD).length=l.length:=by simp
 have W:=rwant_yes q l (i+1) d a (tc 61) wt hi1 b2
 have V:=(want_x l wt q d (tc 59)).out
 generalize (tk l i).text=n at *
 have hi3:=wt.more (i+2) hi2 (by omega)
 have b4:isT l (i+3) (tc 40)=true:=by
  unfold isOpen at b3
  unfold isT
  simp only [Bool.and_eq_true] at b3
  rw [b3.1,b3.2]
  rfl
 have hi4:=wt.more (i+3) hi3 (isT_kind b4)
 have N2:=rname_yes q l (i+2) d a wt hi2 kk
 have W2:=rwant_yes q l (i+3) d a (tc 40) wt hi3 b4
 have AR:=(args_x l wf f q d h0 h1).out (i+4) 0 a hi4 (fun _=>pTail.ne hn)
 have g0:=getD_tk hi2
 have g1:(l.map tokD).getD (((i+1+1:Nat):Int)+1).toNat default=tokV (tk l (i+3)).kind (tk l (i+3)).text (tk l (i+3)).pos:=by
  rw [show (((i+1+1:Nat):Int)+1)=((i+3:Nat):Int) by omega]
  exact getD_tk hi3
 unfold isOpen at b3
 simp only [Bool.and_eq_true,beq_iff_eq] at b3
 obtain ⟨k4,s4⟩:=b3
 have s4:strEq (tk l (i+3)).text ⟨#[40]⟩=true:=s4
 rw [kk] at g0
 rw [k4] at g1
 generalize htx:(tk l (i+2)).text=tx at *
 generalize ((tk l (i+2)).pos:Int)=p0 at *
 generalize (tk l (i+3)).text=t3 at *
 generalize ((tk l (i+3)).pos:Int)=p1 at *
 have key:HCalls cx.P 52 [.ptr q 0] [(q,rs l i d 0 a)] (endN l q i d a (pTail l d (pArgs0 l f d (i+4)) fun a=>.mk 8 n tx [] a [] [])):=by
  unfold rs at *
  refine sem_calls' cx (fn:=Tryz.f52) rfl rfl rfl rfl ?_
  repeat' first|((with_reducible refine DrawReg.id ?_);refine drawN cx [] rfl [] [] [0,1,2,3,4,5,6,7,8,9,10,11,12,13,14,15,16,17,18,19,20,21,22,23,24,25,26,27,28,29,30,31,32,33,34,35,36,37,38,39,40,41,42,43,44,45,46,47,48] (by repeat first|exact HTake.nil) rfl (by decide +kernel) ?_)|(refine DN.quiet rfl rfl rfl rfl ?_;(conv=>arg 7;whnf))|(refine DN.nilF ?_;(conv=>whnf))|refine Ops.tag rfl ?_|(refine OpsT.go ?_;(conv=>arg 7;whnf))|refine Stp.pure rfl ?_|((with_reducible refine PutK.isSet ?_);refine PutK.st ?_)|refine PutK.mk' rfl ?_|refine Ops.nil ?_|(with_reducible first|refine DStp.andT ?_)|((with_reducible refine DStp.isSum ?_);refine DStp.sum ?_)|((with_reducible refine DStp.isEq ?_);first|refine DStp.eqT ?_)|refine DStp.pure rfl ?_|((with_reducible refine Look.id ?_);refine Look.at ?_;try (conv=>arg 7;whnf))|((with_reducible refine Side.id ?_);first|refine Side.auto ?_)|((with_reducible refine Br.id ?_);first|(with_reducible first|refine br_false rfl ?_)|refine br_true (by with_reducible assumption) ?_)|((with_reducible refine SemWp.id ?_);first|refine sem_seq ?_|refine sem_region rfl ?_|refine sem_cond rfl ?_|refine sem_ret ?_|refine sem_skip ?_|refine sem_draw ?_)|((with_reducible refine qThen.id ?_);first|refine qThen.go ?_)|refine Stp.look ?_|refine Stp.call ?_|refine Stp.eff ?_|refine DStp.valS ?_|refine DStp.valSC ?_|refine DStp.look ?_|((with_reducible refine CallWp.id ?_);first|(refine callA cx (NM) ?_;(conv=>whnf))|(refine callA cx (T) ?_;(conv=>whnf))|(refine callA cx (W) ?_;(conv=>whnf))|(refine callA cx (N2) ?_;(conv=>whnf))|(refine callA cx (W2) ?_;(conv=>whnf))|(refine callX cx (AR) (fun g hg=>?_);(conv=>whnf))|(refine callX cx (V g.j g.e g.a hg.lt (fun _=>pMust_ne)) (fun g hg=>?_);(conv=>whnf)))|(refine newN (fun r hr=>?_);simp only [keys,List.nil_append,List.cons_append,List.map_cons,List.map_nil,List.mem_cons,List.not_mem_nil,not_or,or_false,not_false_eq_true] at hr;(repeat (obtain ⟨_,hr⟩:=hr)))|((with_reducible refine BodyR.id ?_);first|refine BodyR.ret ?_)|((with_reducible refine ResG.id ?_);first|refine ResG.cell rfl ?_|refine ResG.nil ?_)|((with_reducible refine LoadIs.id ?_);first|refine LoadIs.ag rfl rfl rfl ?_)|((with_reducible refine Upd.id ?_);first|(refine Upd.lit rfl ?_;(conv=>whnf)))|rw [g0]|rw [g1]
  refine Fin.mk ⟨⟨.mk 8 n tx [] _ [] [],g.j,g.e,g.a⟩,(pTail.rel (by assumption) hg).from (by omega),by rw [encSDn];refine WeakerE.ret (Weaker.agg ?_);(repeat first|exact WeakerC.nil|refine WeakerC.cons ?_ rfl ?_|exact Weaker.refl _|exact Weaker.nil _|exact Weaker.tok _ _ _),Subp.tk⟩
 exact HCalls.toX key
set_option maxHeartbeats 4000000 in
theorem rn_d1 (l:List Tk) (wf:WfN l) (f q i:Nat) (d a:Int) (h0:0≤d) (h1:d≤50) (hi:i < l.length) (k1:(tk l i).kind=1) (b:isT l (i+1) (tc 40)=false) (b2:isT l (i+1) (tc 61)=true) (kk:¬ (tk l (i+2)).kind=1) (hn:pNamed l f (tk l i).text d (i+1)≠none):Named l q i d a (pNamed l f (tk l i).text d (i+1)):=by
 have wt:=wf.toWfT
 have wl:=wt.len
 have hi1:=wt.more i hi (by omega)
 have NM:=rname_yes q l i d a wt hi k1
 have T:=rtake_no q l (i+1) d a (tc 40) hi1 b
 have b3:((tk l (i+1+1)).kind == 1 && isOpen l (i+1+2))=false:=by
  simp [kk]
 rw [pNamed_d b b2 b3] at hn ⊢
 have hi2:=wt.more (i+1) hi1 (isT_kind b2)
 have ml:(l.map tokD).length=l.length:=by simp
 have W:=rwant_yes q l (i+1) d a (tc 61) wt hi1 b2
 have V:=(want_x l wt q d (tc 59)).out
 generalize (tk l i).text=n at *
 have EX:=(expr_x l wf f q d h0 h1).out (i+2) 0 a hi2 (fun _=>pTail.ne hn)
 have g0:=getD_tk hi2
 clear b3
 generalize (tk l (i+2)).kind=kd0 at *
 generalize (tk l (i+2)).text=tx at *
 generalize ((tk l (i+2)).pos:Int)=p0 at *
 have key:HCalls cx.P 52 [.ptr q 0] [(q,rs l i d 0 a)] (endN l q i d a (pTail l d (pEx l f .expr d (i+2)) fun x=>sdE 1 n x)):=by
  unfold rs at *
  refine sem_calls' cx (fn:=Tryz.f52) rfl rfl rfl rfl ?_
  repeat' first|((with_reducible refine DrawReg.id ?_);refine drawN cx [] rfl [] [] [0,1,2,3,4,5,6,7,8,9,10,11,12,13,14,15,16,17,18,19,20,21,22,23,24,25,26,27,28,29,30,31,32,33,34,35,36,37,38,39,40,41,42,43,44,45,46,47,48] (by repeat first|exact HTake.nil) rfl (by decide +kernel) ?_)|(refine DN.dead rfl rfl rfl rfl rfl ?_;skip)|(refine DN.quiet rfl rfl rfl rfl ?_;(conv=>arg 7;whnf))|(refine DN.nilF ?_;(conv=>whnf))|refine Ops.tag rfl ?_|(refine OpsT.go ?_;(conv=>arg 7;whnf))|refine Stp.pure rfl ?_|((with_reducible refine PutK.isSet ?_);refine PutK.st ?_)|refine PutK.mk' rfl ?_|refine Ops.nil ?_|(with_reducible first|refine DStp.andT ?_|refine DStp.andF ?_)|((with_reducible refine DStp.isEq ?_);first|refine DStp.eqT ?_|refine DStp.eqF ?_)|refine DStp.pure rfl ?_|((with_reducible refine Look.id ?_);refine Look.at ?_;try (conv=>arg 7;whnf))|((with_reducible refine Side.id ?_);first|refine Side.auto ?_)|((with_reducible refine Br.id ?_);first|(with_reducible first|refine br_false rfl ?_))|((with_reducible refine SemWp.id ?_);first|refine sem_seq ?_|refine sem_region rfl ?_|refine sem_cond rfl ?_|refine sem_ret ?_|refine sem_skip ?_|refine sem_draw ?_)|((with_reducible refine qThen.id ?_);first|refine qThen.go ?_)|refine Stp.look ?_|refine Stp.call ?_|refine Stp.eff ?_|refine DStp.valS ?_|refine DStp.valSC ?_|refine DStp.look ?_|((with_reducible refine CallWp.id ?_);first|(refine callA cx (NM) ?_;(conv=>whnf))|(refine callA cx (T) ?_;(conv=>whnf))|(refine callA cx (W) ?_;(conv=>whnf))|(refine callX cx (EX) (fun g hg=>?_);(conv=>whnf))|(refine callX cx (V g.j g.e g.a hg.lt (fun _=>pMust_ne)) (fun g hg=>?_);(conv=>whnf)))|(refine newN (fun r hr=>?_);simp only [keys,List.nil_append,List.cons_append,List.map_cons,List.map_nil,List.mem_cons,List.not_mem_nil,not_or,or_false,not_false_eq_true] at hr;(repeat (obtain ⟨_,hr⟩:=hr)))|((with_reducible refine BodyR.id ?_);first|refine BodyR.ret ?_)|((with_reducible refine ResG.id ?_);first|refine ResG.cell rfl ?_|refine ResG.nil ?_)|((with_reducible refine LoadIs.id ?_);first|refine LoadIs.ag rfl rfl rfl ?_)|((with_reducible refine Upd.id ?_);first|(refine Upd.lit rfl ?_;(conv=>whnf)))|rw [g0]
  refine Fin.mk ⟨⟨.mk 1 n noS _ [] [] [],g.j,g.e,g.a⟩,(pTail.rel (mk:=fun x=>sdE 1 n x) (by assumption) hg).from (by omega),by rw [encSDn];refine WeakerE.ret (Weaker.agg ?_);(repeat first|exact WeakerC.nil|refine WeakerC.cons ?_ rfl ?_|exact Weaker.refl _|exact Weaker.nil _|exact Weaker.tok _ _ _),Subp.tk⟩
 exact HCalls.toX key
set_option maxHeartbeats 4000000 in
theorem rn_d2 (l:List Tk) (wf:WfN l) (f q i:Nat) (d a:Int) (h0:0≤d) (h1:d≤50) (hi:i < l.length) (k1:(tk l i).kind=1) (b:isT l (i+1) (tc 40)=false) (b2:isT l (i+1) (tc 61)=true) (kk:(tk l (i+2)).kind=1) (k4:¬ (tk l (i+3)).kind=4) (hn:pNamed l f (tk l i).text d (i+1)≠none):Named l q i d a (pNamed l f (tk l i).text d (i+1)):=by
 have wt:=wf.toWfT
 have wl:=wt.len
 have hi1:=wt.more i hi (by omega)
 have NM:=rname_yes q l i d a wt hi k1
 have T:=rtake_no q l (i+1) d a (tc 40) hi1 b
 have b3:((tk l (i+1+1)).kind == 1 && isOpen l (i+1+2))=false:=by
  simp [isOpen,k4]
 rw [pNamed_d b b2 b3] at hn ⊢
 have hi2:=wt.more (i+1) hi1 (isT_kind b2)
 have ml:(l.map tokD).length=l.length:=by simp
 have W:=rwant_yes q l (i+1) d a (tc 61) wt hi1 b2
 have V:=(want_x l wt q d (tc 59)).out
 generalize (tk l i).text=n at *
 have EX:=(expr_x l wf f q d h0 h1).out (i+2) 0 a hi2 (fun _=>pTail.ne hn)
 have g0:=getD_tk hi2
 have hi3:=wt.more (i+2) hi2 (by omega)
 have g1:(l.map tokD).getD (((i+1+1:Nat):Int)+1).toNat default=tokV (tk l (i+3)).kind (tk l (i+3)).text (tk l (i+3)).pos:=by
  rw [show (((i+1+1:Nat):Int)+1)=((i+3:Nat):Int) by omega]
  exact getD_tk hi3
 rw [kk] at g0
 generalize (tk l (i+3)).kind=kd1 at *
 generalize (tk l (i+3)).text=t3 at *
 generalize ((tk l (i+3)).pos:Int)=p1 at *
 clear b3
 generalize (tk l (i+2)).kind=kd0 at *
 generalize (tk l (i+2)).text=tx at *
 generalize ((tk l (i+2)).pos:Int)=p0 at *
 have key:HCalls cx.P 52 [.ptr q 0] [(q,rs l i d 0 a)] (endN l q i d a (pTail l d (pEx l f .expr d (i+2)) fun x=>sdE 1 n x)):=by
  unfold rs at *
  refine sem_calls' cx (fn:=Tryz.f52) rfl rfl rfl rfl ?_
  repeat' first|((with_reducible refine DrawReg.id ?_);refine drawN cx [] rfl [] [] [0,1,2,3,4,5,6,7,8,9,10,11,12,13,14,15,16,17,18,19,20,21,22,23,24,25,26,27,28,29,30,31,32,33,34,35,36,37,38,39,40,41,42,43,44,45,46,47,48] (by repeat first|exact HTake.nil) rfl (by decide +kernel) ?_)|(refine DN.dead rfl rfl rfl rfl rfl ?_;skip)|(refine DN.quiet rfl rfl rfl rfl ?_;(conv=>arg 7;whnf))|(refine DN.nilF ?_;(conv=>whnf))|refine Ops.tag rfl ?_|(refine OpsT.go ?_;(conv=>arg 7;whnf))|refine Stp.pure rfl ?_|((with_reducible refine PutK.isSet ?_);refine PutK.st ?_)|refine PutK.mk' rfl ?_|refine Ops.nil ?_|(with_reducible first|refine DStp.andT ?_|refine DStp.andF ?_)|((with_reducible refine DStp.isSum ?_);refine DStp.sum ?_)|((with_reducible refine DStp.isEq ?_);first|refine DStp.eqT ?_|refine DStp.eqF ?_)|refine DStp.pure rfl ?_|((with_reducible refine Look.id ?_);refine Look.at ?_;try (conv=>arg 7;whnf))|((with_reducible refine Side.id ?_);first|refine Side.auto ?_)|((with_reducible refine Br.id ?_);first|(with_reducible first|refine br_false rfl ?_))|((with_reducible refine SemWp.id ?_);first|refine sem_seq ?_|refine sem_region rfl ?_|refine sem_cond rfl ?_|refine sem_ret ?_|refine sem_skip ?_|refine sem_draw ?_)|((with_reducible refine qThen.id ?_);first|refine qThen.go ?_)|refine Stp.look ?_|refine Stp.call ?_|refine Stp.eff ?_|refine DStp.valS ?_|refine DStp.valSC ?_|refine DStp.look ?_|((with_reducible refine CallWp.id ?_);first|(refine callA cx (NM) ?_;(conv=>whnf))|(refine callA cx (T) ?_;(conv=>whnf))|(refine callA cx (W) ?_;(conv=>whnf))|(refine callX cx (EX) (fun g hg=>?_);(conv=>whnf))|(refine callX cx (V g.j g.e g.a hg.lt (fun _=>pMust_ne)) (fun g hg=>?_);(conv=>whnf)))|(refine newN (fun r hr=>?_);simp only [keys,List.nil_append,List.cons_append,List.map_cons,List.map_nil,List.mem_cons,List.not_mem_nil,not_or,or_false,not_false_eq_true] at hr;(repeat (obtain ⟨_,hr⟩:=hr)))|((with_reducible refine BodyR.id ?_);first|refine BodyR.ret ?_)|((with_reducible refine ResG.id ?_);first|refine ResG.cell rfl ?_|refine ResG.nil ?_)|((with_reducible refine LoadIs.id ?_);first|refine LoadIs.ag rfl rfl rfl ?_)|((with_reducible refine Upd.id ?_);first|(refine Upd.lit rfl ?_;(conv=>whnf)))|rw [g0]|rw [g1]
  refine Fin.mk ⟨⟨.mk 1 n noS _ [] [] [],g.j,g.e,g.a⟩,(pTail.rel (mk:=fun x=>sdE 1 n x) (by assumption) hg).from (by omega),by rw [encSDn];refine WeakerE.ret (Weaker.agg ?_);(repeat first|exact WeakerC.nil|refine WeakerC.cons ?_ rfl ?_|exact Weaker.refl _|exact Weaker.nil _|exact Weaker.tok _ _ _),Subp.tk⟩
 exact HCalls.toX key
set_option maxHeartbeats 4000000 in
theorem rn_d3 (l:List Tk) (wf:WfN l) (f q i:Nat) (d a:Int) (h0:0≤d) (h1:d≤50) (hi:i < l.length) (k1:(tk l i).kind=1) (b:isT l (i+1) (tc 40)=false) (b2:isT l (i+1) (tc 61)=true) (kk:(tk l (i+2)).kind=1) (k4:(tk l (i+3)).kind=4) (s4:strEq (tk l (i+3)).text (tc 40)=false) (hn:pNamed l f (tk l i).text d (i+1)≠none):Named l q i d a (pNamed l f (tk l i).text d (i+1)):=by
 have wt:=wf.toWfT
 have wl:=wt.len
 have hi1:=wt.more i hi (by omega)
 have NM:=rname_yes q l i d a wt hi k1
 have T:=rtake_no q l (i+1) d a (tc 40) hi1 b
 have b3:((tk l (i+1+1)).kind == 1 && isOpen l (i+1+2))=false:=by
  simp [isOpen,s4]
 rw [pNamed_d b b2 b3] at hn ⊢
 have hi2:=wt.more (i+1) hi1 (isT_kind b2)
 have ml:(l.map tokD).length=l.length:=by simp
 have W:=rwant_yes q l (i+1) d a (tc 61) wt hi1 b2
 have V:=(want_x l wt q d (tc 59)).out
 generalize (tk l i).text=n at *
 have EX:=(expr_x l wf f q d h0 h1).out (i+2) 0 a hi2 (fun _=>pTail.ne hn)
 have g0:=getD_tk hi2
 have hi3:=wt.more (i+2) hi2 (by omega)
 have g1:(l.map tokD).getD (((i+1+1:Nat):Int)+1).toNat default=tokV (tk l (i+3)).kind (tk l (i+3)).text (tk l (i+3)).pos:=by
  rw [show (((i+1+1:Nat):Int)+1)=((i+3:Nat):Int) by omega]
  exact getD_tk hi3
 rw [kk] at g0
 rw [k4] at g1
 have s4:strEq (tk l (i+3)).text ⟨#[40]⟩=false:=s4
 generalize (tk l (i+3)).text=t3 at *
 generalize ((tk l (i+3)).pos:Int)=p1 at *
 clear b3
 generalize (tk l (i+2)).kind=kd0 at *
 generalize (tk l (i+2)).text=tx at *
 generalize ((tk l (i+2)).pos:Int)=p0 at *
 have key:HCalls cx.P 52 [.ptr q 0] [(q,rs l i d 0 a)] (endN l q i d a (pTail l d (pEx l f .expr d (i+2)) fun x=>sdE 1 n x)):=by
  unfold rs at *
  refine sem_calls' cx (fn:=Tryz.f52) rfl rfl rfl rfl ?_
  repeat' first|((with_reducible refine DrawReg.id ?_);refine drawN cx [] rfl [] [] [0,1,2,3,4,5,6,7,8,9,10,11,12,13,14,15,16,17,18,19,20,21,22,23,24,25,26,27,28,29,30,31,32,33,34,35,36,37,38,39,40,41,42,43,44,45,46,47,48] (by repeat first|exact HTake.nil) rfl (by decide +kernel) ?_)|(refine DN.quiet rfl rfl rfl rfl ?_;(conv=>arg 7;whnf))|(refine DN.nilF ?_;(conv=>whnf))|refine Ops.tag rfl ?_|(refine OpsT.go ?_;(conv=>arg 7;whnf))|refine Stp.pure rfl ?_|((with_reducible refine PutK.isSet ?_);refine PutK.st ?_)|refine PutK.mk' rfl ?_|refine Ops.nil ?_|(with_reducible first|refine DStp.andT ?_)|((with_reducible refine DStp.isSum ?_);refine DStp.sum ?_)|((with_reducible refine DStp.isEq ?_);first|refine DStp.eqT ?_)|refine DStp.pure rfl ?_|((with_reducible refine Look.id ?_);refine Look.at ?_;try (conv=>arg 7;whnf))|((with_reducible refine Side.id ?_);first|refine Side.auto ?_)|((with_reducible refine Br.id ?_);first|(with_reducible first|refine br_false rfl ?_)|refine br_false (by with_reducible assumption) ?_)|((with_reducible refine SemWp.id ?_);first|refine sem_seq ?_|refine sem_region rfl ?_|refine sem_cond rfl ?_|refine sem_ret ?_|refine sem_skip ?_|refine sem_draw ?_)|((with_reducible refine qThen.id ?_);first|refine qThen.go ?_)|refine Stp.look ?_|refine Stp.call ?_|refine Stp.eff ?_|refine DStp.valS ?_|refine DStp.valSC ?_|refine DStp.look ?_|((with_reducible refine CallWp.id ?_);first|(refine callA cx (NM) ?_;(conv=>whnf))|(refine callA cx (T) ?_;(conv=>whnf))|(refine callA cx (W) ?_;(conv=>whnf))|(refine callX cx (EX) (fun g hg=>?_);(conv=>whnf))|(refine callX cx (V g.j g.e g.a hg.lt (fun _=>pMust_ne)) (fun g hg=>?_);(conv=>whnf)))|(refine newN (fun r hr=>?_);simp only [keys,List.nil_append,List.cons_append,List.map_cons,List.map_nil,List.mem_cons,List.not_mem_nil,not_or,or_false,not_false_eq_true] at hr;(repeat (obtain ⟨_,hr⟩:=hr)))|((with_reducible refine BodyR.id ?_);first|refine BodyR.ret ?_)|((with_reducible refine ResG.id ?_);first|refine ResG.cell rfl ?_|refine ResG.nil ?_)|((with_reducible refine LoadIs.id ?_);first|refine LoadIs.ag rfl rfl rfl ?_)|((with_reducible refine Upd.id ?_);first|(refine Upd.lit rfl ?_;(conv=>whnf)))|rw [g0]|rw [g1]
  refine Fin.mk ⟨⟨.mk 1 n noS _ [] [] [],g.j,g.e,g.a⟩,(pTail.rel (mk:=fun x=>sdE 1 n x) (by assumption) hg).from (by omega),by rw [encSDn];refine WeakerE.ret (Weaker.agg ?_);(repeat first|exact WeakerC.nil|refine WeakerC.cons ?_ rfl ?_|exact Weaker.refl _|exact Weaker.nil _|exact Weaker.tok _ _ _),Subp.tk⟩
 exact HCalls.toX key
theorem rnamed (l:List Tk) (wf:WfN l) (f q i:Nat) (d a:Int) (h0:0≤d) (h1:d≤50) (hi:i < l.length) (k1:(tk l i).kind=1) (hn:pNamed l f (tk l i).text d (i+1)≠none):Named l q i d a (pNamed l f (tk l i).text d (i+1)):=by
 cases b:isT l (i+1) (tc 40) with
 |true=>exact rn_a l wf f q i d a h0 h1 hi k1 b hn
 |false=>
 cases b2:isT l (i+1) (tc 61) with
 |false=>exact rn_b l wf f q i d a h0 h1 hi k1 b b2 hn
 |true=>
 by_cases kk:(tk l (i+2)).kind=1
 rotate_left
 ·exact rn_d1 l wf f q i d a h0 h1 hi k1 b b2 kk hn
 by_cases k4:(tk l (i+3)).kind=4
 rotate_left
 ·exact rn_d2 l wf f q i d a h0 h1 hi k1 b b2 kk k4 hn
 cases s4:strEq (tk l (i+3)).text (tc 40) with
 |false=>exact rn_d3 l wf f q i d a h0 h1 hi k1 b b2 kk k4 s4 hn
 |true=>exact rn_c l wf f q i d a h0 h1 hi k1 b b2 kk (by simp [isOpen,k4,s4]) hn
end Go.Proofs.Hk

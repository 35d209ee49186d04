import Derived.Test.YtcihapdaapkdjaaGreatDoorP5
set_option linter.unusedSimpArgs false
set_option linter.unusedVariables false
set_option linter.unusedSectionVars false
namespace Go.Proofs.Hk
open Go Go.Proofs
/-! What is read hangs on kinds and texts alone, up to where it stops; more fuel changes nothing. -/
def idx {α:Type} : Except (Int × Nat × Int) (α × Nat)→Nat
 |.ok (_,j)=>j
 |.error (_,j,_)=>j
def Ge (i:Nat) {α:Type} (r:Res' α):Prop:=∀ res,r=some res→i≤idx res
theorem Ge.ok {i m:Nat} {α:Type} {x:α} (h:i≤m):Ge i (okR x m):=fun res e=>by cases e;exact h
theorem Ge.err {i j:Nat} {α:Type} {c d:Int} (h:i≤j):Ge i (errR c j d:Res' α):=fun res e=>by cases e;exact h
theorem Ge.le {i i':Nat} {α:Type} {r:Res' α} (h:Ge i' r) (hi:i≤i'):Ge i r:=fun res e=>Nat.le_trans hi (h res e)
theorem Ge.bind {i:Nat} {α β:Type} {r:Res' α} {k:α→Nat→Res' β} (h:Ge i r) (hk:∀ x j,r=some (.ok (x,j))→Ge i (k x j)):Ge i (bindR r k):=fun res e=>by
 cases r with
 |none=>cases e
 |some r=>
  cases r with
  |error x=>cases e;exact h (.error x) rfl
  |ok x=>exact hk x.1 x.2 rfl res e
theorem Ge.of {l:List Tk} {i:Nat} {α:Type} {r:Res' α} (h:ErrAt l i r) (hk:∀ x j,r=some (.ok (x,j))→i≤j):Ge i r:=fun res e=>by
 cases res with
 |ok x=>exact hk x.1 x.2 e
 |error x=>exact (h x.1 x.2.1 x.2.2 e).2.1
def Imp (J:Nat) {α:Type} (r r':Res' α):Prop:=∀ res,r=some res→idx res≤J→r'=some res
theorem Imp.refl {J:Nat} {α:Type} (r:Res' α):Imp J r r:=fun _ h _=>h
theorem Imp.bind {J:Nat} {α β:Type} {r r':Res' α} {k k':α→Nat→Res' β} (h:Imp J r r') (hm:∀ x j,r=some (.ok (x,j))→Ge j (k x j)) (hk:∀ x j,r=some (.ok (x,j))→j≤J→Imp J (k x j) (k' x j)):Imp J (bindR r k) (bindR r' k'):=fun res e hJ=>by
 cases r with
 |none=>cases e
 |some r=>
  cases r with
  |error x=>
   cases e
   rw [h _ rfl hJ];rfl
  |ok x=>
   have e:k x.1 x.2=some res:=e
   have h1:=hm x.1 x.2 rfl res e
   rw [h _ rfl (show idx (.ok x)≤J from (show x.2≤J from Nat.le_trans h1 hJ))]
   exact hk x.1 x.2 rfl (Nat.le_trans h1 hJ) res e hJ
/-- Two rows of tokens that are alike up to a place. -/
structure Like (l l':List Tk) (J:Nat):Prop where
 kind:∀ i,i≤J→(tk l' i).kind=(tk l i).kind
 text:∀ i,i≤J→(tk l' i).text=(tk l i).text
section
variable {l l':List Tk} {J:Nat} (wf:WfT l) (ag:Like l l' J)
include ag
theorem Like.isT {i:Nat} (hi:i≤J) (s:ByteArray):Hk.isT l' i s=Hk.isT l i s:=by
 unfold Hk.isT;rw [ag.kind i hi,ag.text i hi]
theorem Like.orK {i:Nat} (hi:i≤J):Hk.orK l' i=Hk.orK l i:=by unfold Hk.orK;rw [ag.isT hi]
theorem Like.andK {i:Nat} (hi:i≤J):Hk.andK l' i=Hk.andK l i:=by unfold Hk.andK;rw [ag.isT hi]
theorem Like.addK {i:Nat} (hi:i≤J):Hk.addK l' i=Hk.addK l i:=by unfold Hk.addK;rw [ag.isT hi,ag.isT hi]
theorem Like.mulK {i:Nat} (hi:i≤J):Hk.mulK l' i=Hk.mulK l i:=by unfold Hk.mulK;rw [ag.isT hi,ag.isT hi,ag.isT hi]
theorem Like.relK {i:Nat} (hi:i≤J):Hk.relK l' i=Hk.relK l i:=by unfold Hk.relK;simp only [ag.isT hi]
end
section
variable {l:List Tk} (wf:WfT l)
include wf
theorem pE_ge {f:Nat} {lv:Lv} {d:Int} {i:Nat} (hi:i < l.length):Ge i (pE l f lv d i):=.of (pE_err wf f lv d i hi) fun x j h=>(pE_facts wf f lv d i x j hi h).2.1
theorem pS_ge {f:Nat} {lv:Ls} {d:Int} {i:Nat} (hi:i < l.length):Ge i (pS l f lv d i):=.of (pS_err wf f lv d i hi) fun x j h=>(by have:=(pS_facts wf f lv d i x j hi h).2.1;omega)
theorem pName_ge {d:Int} {i:Nat} (hi:i < l.length):Ge i (pName l d i):=.of (pName_err hi) fun x j h=>(by have:=pName_facts wf hi h;omega)
theorem pMust_ge {s:ByteArray} {d:Int} {i:Nat} (hi:i < l.length):Ge i (pMust l s d i):=.of (pMust_err hi) fun x j h=>(by have:=pMust_facts wf hi h;omega)
theorem pArgs_ge {f:Nat} {acc:List (List ND)} {d:Int} {i:Nat} (hi:i < l.length):Ge i (pArgs l f acc d i):=.of (pArgs_err wf f acc d i hi) fun x j h=>(by have:=pArgs_facts wf f acc d i x j hi h;omega)
theorem pArgs0_ge {f:Nat} {d:Int} {i:Nat} (hi:i < l.length):Ge i (pArgs0 l f d i):=.of (pArgs0_err wf hi) fun x j h=>(by have:=pArgs0_facts wf hi h;omega)
theorem pNames_ge {f:Nat} {acc:List ByteArray} {d:Int} {i:Nat} (hi:i < l.length):Ge i (pNames l f acc d i):=.of (pNames_err wf f acc d i hi) fun x j h=>(by have:=pNames_facts wf f acc d i x j hi h;omega)
theorem pNames0_ge {f:Nat} {d:Int} {i:Nat} (hi:i < l.length):Ge i (pNames0 l f d i):=.of (pNames0_err wf hi) fun x j h=>(by have:=pNames0_facts wf hi h;omega)
theorem pCall_ge {f:Nat} {n p:ByteArray} {d:Int} {i:Nat} (hi:i < l.length):Ge i (pCall l f n p d i):=.of (pCall_err wf hi) fun x j h=>(by have:=pCall_facts wf hi h;omega)
theorem pNamed_ge {f:Nat} {n:ByteArray} {d:Int} {i:Nat} (hi:i < l.length):Ge i (pNamed l f n d i):=.of (pNamed_err wf hi) fun x j h=>(by have:=pNamed_facts wf hi h;omega)
theorem pVars_ge {f:Nat} {acc:List ByteArray} {d:Int} {i:Nat} (hi:i < l.length):Ge i (pVars l f acc d i):=.of (pVars_err wf f acc d i hi) fun x j h=>(by have:=pVars_facts wf f acc d i x j hi h;omega)
theorem pProc_ge {f i:Nat} (hi:i < l.length):Ge i (pProc l f i):=.of (pProc_err wf hi) fun x j h=>(by have:=pProc_facts wf hi h;omega)
theorem close_ge {s:ByteArray} {d:Int} {j:Nat} {α:Type} {e:α} : Ge j (if isT l j s=true then okR e (j+1) else errR 4 j d):=by
 split
 ·exact .ok (by omega)
 ·exact .err (Nat.le_refl _)
theorem ended_ge {d:Int} {r:Res' SD} {i:Nat} (h:Ge i r) (hr:∀ x m,r=some (.ok (x,m))→m < l.length∧i≤m):Ge i (ended l d r):=
 h.bind fun x j hx=>((pMust_ge wf (hr x j hx).1).le (hr x j hx).2).bind fun _ m hm=>.ok (by have:=pMust_facts wf (hr x j hx).1 hm;have:=hr x j hx;omega)
end
theorem pE_to {l l':List Tk} {J:Nat} (wf:WfT l) (ag:Like l l' J):∀ (f f':Nat) (lv:Lv) (d:Int) (i:Nat),f≤f'→i < l.length→i≤J→Imp J (pE l f lv d i) (pE l' f' lv d i):=by
 intro f
 induction f with
 |zero=>intro f' lv d i hf hi hJ res h;cases h
 |succ f ih=>
  intro f' lv d i hf hi hJ
  obtain ⟨f',rfl⟩:∃ g,f'=g+1:=⟨f' - 1,by omega⟩
  have hf:f≤f':=by omega
  have loop:∀ (L:Ex→Lv) (B:Lv) (d:Int) (i:Nat),i < l.length→i≤J→Imp J (bindR (pE l f B d i) fun e j=>pE l f (L e) d j) (bindR (pE l' f' B d i) fun e j=>pE l' f' (L e) d j):=fun L B d i hi hJ=>
   (ih f' B d i hf hi hJ).bind (fun x j hx=>pE_ge wf (pE_facts wf f B d i x j hi hx).1) fun x j hx hj=>ih f' _ d j hf (pE_facts wf f B d i x j hi hx).1 hj
  have more:∀ (L:Ex→Lv) (B:Lv) (k:Int) (e0:Ex) (d:Int) (i:Nat),i < l.length→i≤J→(tk l i).kind≠0→Imp J (bindR (pE l f B d (i+1)) fun e2 j=>pE l f (L (.bin k e0 e2)) d j) (bindR (pE l' f' B d (i+1)) fun e2 j=>pE l' f' (L (.bin k e0 e2)) d j):=fun L B k e0 d i hi hJ hk=>by
   have hi1:=wf.more i hi hk
   intro res h hJ2
   have hge:Ge (i+1) (bindR (pE l f B d (i+1)) fun e2 j=>pE l f (L (.bin k e0 e2)) d j):=(pE_ge wf hi1).bind fun x j hx=>(pE_ge wf (pE_facts wf f B d (i+1) x j hi1 hx).1).le (pE_facts wf f B d (i+1) x j hi1 hx).2.1
   have:=hge res h
   exact ((ih f' B d (i+1) hf hi1 (by omega)).bind (fun x j hx=>pE_ge wf (pE_facts wf f B d (i+1) x j hi1 hx).1) fun x j hx hj=>ih f' _ d j hf (pE_facts wf f B d (i+1) x j hi1 hx).1 hj) res h hJ2
  have sub:∀ (B:Lv) (d:Int) {β:Type} (k k':Ex→Nat→Res' β),(tk l i).kind≠0→(∀ x j,pE l f B d (i+1)=some (.ok (x,j))→j < l.length→Ge j (k x j))→(∀ x j,j < l.length→j≤J→Imp J (k x j) (k' x j))→Imp J (bindR (pE l f B d (i+1)) k) (bindR (pE l' f' B d (i+1)) k'):=fun B d {β} k k' hk hg hkk=>by
   have hi1:=wf.more i hi hk
   intro res h hJ2
   have hge:Ge (i+1) (bindR (pE l f B d (i+1)) k):=(pE_ge wf hi1).bind fun x j hx=>(hg x j hx (pE_facts wf f B d (i+1) x j hi1 hx).1).le (pE_facts wf f B d (i+1) x j hi1 hx).2.1
   have:=hge res h
   exact ((ih f' B d (i+1) hf hi1 (by omega)).bind (fun x j hx=>hg x j hx (pE_facts wf f B d (i+1) x j hi1 hx).1) fun x j hx hj=>hkk x j (pE_facts wf f B d (i+1) x j hi1 hx).1 hj) res h hJ2
  cases lv with
  |cond=>exact loop .condL .conj d i hi hJ
  |conj=>exact loop .conjL .lit d i hi hJ
  |expr=>exact loop .exprL .term d i hi hJ
  |term=>exact loop .termL .unary d i hi hJ
  |condL e0=>
   simp only [pE]
   rw [ag.orK hJ]
   split
   ·rename_i k hk;exact more .condL .conj k e0 d i hi hJ (orK_isT hk)
   ·exact .refl _
  |conjL e0=>
   simp only [pE]
   rw [ag.andK hJ]
   split
   ·rename_i k hk;exact more .conjL .lit k e0 d i hi hJ (andK_isT hk)
   ·exact .refl _
  |exprL e0=>
   simp only [pE]
   rw [ag.addK hJ]
   split
   ·rename_i k hk;exact more .exprL .term k e0 d i hi hJ (addK_isT hk)
   ·exact .refl _
  |termL e0=>
   simp only [pE]
   rw [ag.mulK hJ]
   split
   ·rename_i k hk;exact more .termL .unary k e0 d i hi hJ (mulK_isT hk)
   ·exact .refl _
  |lit=>
   simp only [pE]
   simp only [ag.isT hJ]
   split
   ·rename_i ht
    split
    ·exact .refl _
    ·exact sub .lit _ _ _ (isT_kind ht) (fun x j _ _=>.ok (Nat.le_refl _)) fun x j _ _=>.refl _
   split
   ·rename_i ht
    split
    ·exact .refl _
    ·refine sub .cond _ _ _ (isT_kind ht) (fun x j _ _=>close_ge wf) fun x j _ hj=>?_
     rw [ag.isT hj];exact .refl _
   split
   ·exact .refl _
   split
   ·exact .refl _
   split
   ·exact .refl _
   have g2:∀ x j,j < l.length→Ge j (match relK l j with|some k=>bindR (pE l f .expr d (j+1)) fun b m=>okR (Ex.bin k x b) m|none=>errR 4 j d):=fun x j hj=>by
    split
    ·rename_i k hk
     have hj1:=wf.more j hj (relK_isT hk)
     exact ((pE_ge wf hj1).le (by omega)).bind fun y m hy=>.ok (by have:=pE_facts wf f _ _ _ y m hj1 hy;omega)
    ·exact .err (Nat.le_refl _)
   refine (ih f' .expr d i hf hi hJ).bind (fun x j hx=>g2 x j (pE_facts wf f .expr d i x j hi hx).1) fun x j hx hj=>?_
   have hjl:=(pE_facts wf f .expr d i x j hi hx).1
   rw [ag.relK hj]
   split
   ·rename_i k hk
    have hj1:=wf.more j hjl (relK_isT hk)
    intro res h hJ2
    have hge:Ge (j+1) (bindR (pE l f .expr d (j+1)) fun b m=>okR (Ex.bin k x b) m):=(pE_ge wf hj1).bind fun y m hy=>.ok (pE_facts wf f _ _ _ y m hj1 hy).2.1
    have:=hge res h
    exact ((ih f' .expr d (j+1) hf hj1 (by omega)).bind (fun y m hy=>.ok (Nat.le_refl _)) fun y m _ _=>.refl _) res h hJ2
   ·exact .refl _
  |unary=>
   simp only [pE]
   simp only [ag.isT hJ,ag.kind i hJ,ag.text i hJ]
   split
   ·rename_i ht
    split
    ·exact .refl _
    ·exact sub .unary _ _ _ (isT_kind ht) (fun x j _ _=>.ok (Nat.le_refl _)) fun x j _ _=>.refl _
   split
   ·rename_i ht
    split
    ·exact .refl _
    ·refine sub .expr _ _ _ (isT_kind ht) (fun x j _ _=>close_ge wf) fun x j _ hj=>?_
     rw [ag.isT hj];exact .refl _
   exact .refl _
/-- Behind a token that is no end. -/
theorem Imp.next {l:List Tk} {J i:Nat} {α:Type} {r r':Res' α} (hge:Ge (i+1) r) (h:i+1≤J→Imp J r r'):Imp J r r':=fun res e hJ=>by
 have:=hge res e
 exact h (by omega) res e hJ
section
variable {l l':List Tk} {J:Nat} (wf:WfT l) (ag:Like l l' J)
include wf ag
theorem pName_to {d:Int} {i:Nat} (hJ:i≤J):Imp J (pName l d i) (pName l' d i):=by
 unfold pName;rw [ag.kind i hJ,ag.text i hJ];exact .refl _
theorem pMust_to {s:ByteArray} {d:Int} {i:Nat} (hJ:i≤J):Imp J (pMust l s d i) (pMust l' s d i):=by
 unfold pMust;rw [ag.isT hJ];exact .refl _
theorem pArgs_to:∀ (f f':Nat) (acc:List (List ND)) (d:Int) (i:Nat),f≤f'→i < l.length→i≤J→Imp J (pArgs l f acc d i) (pArgs l' f' acc d i):=by
 intro f
 induction f with
 |zero=>intro f' acc d i hf hi hJ res h;cases h
 |succ f ih=>
  intro f' acc d i hf hi hJ
  obtain ⟨f',rfl⟩:∃ g,f'=g+1:=⟨f' - 1,by omega⟩
  have hf:f≤f':=by omega
  unfold pArgs
  refine (pE_to wf ag f f' _ d i hf hi hJ).bind (fun x j hx=>?_) fun x j hx hj=>?_
  ·have k:=(pE_facts wf f _ d i x j hi hx).1
   split
   ·rename_i ht
    exact (pArgs_ge wf (wf.more j k (isT_kind ht))).le (by omega)
   ·exact close_ge wf
  ·have k:=(pE_facts wf f _ d i x j hi hx).1
   rw [ag.isT hj,ag.isT hj]
   split
   ·rename_i ht
    have hj1:=wf.more j k (isT_kind ht)
    exact Imp.next (l:=l) (pArgs_ge wf hj1) fun hJ1=>ih f' _ d (j+1) hf hj1 hJ1
   ·exact .refl _
theorem pArgs0_to {f f':Nat} {d:Int} {i:Nat} (hf:f≤f') (hi:i < l.length) (hJ:i≤J):Imp J (pArgs0 l f d i) (pArgs0 l' f' d i):=by
 unfold pArgs0
 rw [ag.isT hJ]
 split
 ·exact .refl _
 ·exact pArgs_to wf ag f f' _ d i hf hi hJ
theorem pNames_to:∀ (f f':Nat) (acc:List ByteArray) (d:Int) (i:Nat),f≤f'→i < l.length→i≤J→Imp J (pNames l f acc d i) (pNames l' f' acc d i):=by
 intro f
 induction f with
 |zero=>intro f' acc d i hf hi hJ res h;cases h
 |succ f ih=>
  intro f' acc d i hf hi hJ
  obtain ⟨f',rfl⟩:∃ g,f'=g+1:=⟨f' - 1,by omega⟩
  have hf:f≤f':=by omega
  unfold pNames
  refine (pName_to wf ag hJ).bind (fun x j hx=>?_) fun x j hx hj=>?_
  ·have k:=(pName_facts wf hi hx).1
   split
   ·rename_i ht
    exact (pNames_ge wf (wf.more j k (isT_kind ht))).le (by omega)
   ·exact close_ge wf
  ·have k:=(pName_facts wf hi hx).1
   rw [ag.isT hj,ag.isT hj]
   split
   ·rename_i ht
    have hj1:=wf.more j k (isT_kind ht)
    exact Imp.next (l:=l) (pNames_ge wf hj1) fun hJ1=>ih f' _ d (j+1) hf hj1 hJ1
   ·exact .refl _
theorem pNames0_to {f f':Nat} {d:Int} {i:Nat} (hf:f≤f') (hi:i < l.length) (hJ:i≤J):Imp J (pNames0 l f d i) (pNames0 l' f' d i):=by
 unfold pNames0
 rw [ag.isT hJ]
 split
 ·exact .refl _
 ·exact pNames_to wf ag f f' _ d i hf hi hJ
theorem ended_to {d:Int} {r r':Res' SD} (h:Imp J r r') (hr:∀ x m,r=some (.ok (x,m))→m < l.length):Imp J (ended l d r) (ended l' d r'):=
 h.bind (fun x j hx=>(pMust_ge wf (hr x j hx)).bind fun _ m hm=>.ok (by have:=pMust_facts wf (hr x j hx) hm;omega)) fun x j hx hj=>(pMust_to wf ag hj).bind (fun _ m _=>.ok (Nat.le_refl _)) fun _ m _ _=>.refl _
theorem pCall_to {f f':Nat} {n p:ByteArray} {d:Int} {i:Nat} (hf:f≤f') (hi:i < l.length) (hJ:i≤J):Imp J (pCall l f n p d i) (pCall l' f' n p d i):=by
 unfold pCall
 refine (pMust_to wf ag hJ).bind (fun x j hx=>?_) fun x j hx hj=>?_
 ·have k:=(pMust_facts wf hi hx).1
  exact (pArgs0_ge wf k).bind fun y m hy=>.ok (by have:=pArgs0_facts wf k hy;omega)
 ·have k:=(pMust_facts wf hi hx).1
  exact (pArgs0_to wf ag hf k hj).bind (fun _ m _=>.ok (Nat.le_refl _)) fun _ m _ _=>.refl _
/-- An expression that begins with a name goes on behind it. -/
theorem pE_name {f:Nat} {lv:Lv} {d:Int} {i:Nat} (h1:lv = .unary∨lv = .term∨lv = .expr) (hi:i < l.length) (hk:(tk l i).kind=1):Ge (i+1) (pE l f lv d i):=by
 have hi1:=wf.more i hi (by omega)
 have no:∀ s,isT l i s=false:=fun s=>by unfold isT;rw [hk];rfl
 have u:∀ f,Ge (i+1) (pE l f .unary d i):=fun f=>by
  cases f with
  |zero=>intro res h;cases h
  |succ f=>
   simp only [pE,no,Bool.false_eq_true,if_false]
   rw [if_neg (by omega),if_pos hk]
   exact .ok (Nat.le_refl _)
 have t:∀ f,Ge (i+1) (pE l f .term d i):=fun f=>by
  cases f with
  |zero=>intro res h;cases h
  |succ f=>
   simp only [pE]
   exact (u f).bind fun x j hx=>(pE_ge wf (pE_facts wf f _ d i x j hi hx).1).le (by have:=u f _ hx;exact this)
 have e:∀ f,Ge (i+1) (pE l f .expr d i):=fun f=>by
  cases f with
  |zero=>intro res h;cases h
  |succ f=>
   simp only [pE]
   exact (t f).bind fun x j hx=>(pE_ge wf (pE_facts wf f _ d i x j hi hx).1).le (by have:=t f _ hx;exact this)
 rcases h1 with rfl|rfl|rfl
 ·exact u f
 ·exact t f
 ·exact e f
theorem pNamed_to {f f':Nat} {n:ByteArray} {d:Int} {i:Nat} (hf:f≤f') (hi:i < l.length) (hJ:i≤J):Imp J (pNamed l f n d i) (pNamed l' f' n d i):=by
 unfold pNamed
 rw [ag.isT hJ]
 split
 ·exact ended_to wf ag (pCall_to wf ag hf hi hJ) fun x m h=>(pCall_facts wf hi h).1
 ·have e1:∀ j,j < l.length→∀ x m,(bindR (pE l f .expr d j) fun e m=>okR (sdE 1 n (e.flat 0)) m)=some (.ok (x,m))→m < l.length∧j≤m:=fun j k x m h=>by
   obtain ⟨y,m2,h3,h4⟩:=bindR_ok h
   have:=pE_facts wf f .expr d j y m2 k h3
   cases h4
   omega
  have e2:∀ j,j < l.length→Ge j (bindR (pE l f .expr d j) fun e m=>okR (sdE 1 n (e.flat 0)) m):=fun j k=>(pE_ge wf k).bind fun y m hy=>.ok (pE_facts wf f .expr d j y m k hy).2.1
  refine (pMust_to wf ag hJ).bind (fun x j hx=>?_) fun x j hx hj=>?_
  ·have k:=(pMust_facts wf hi hx).1
   split
   ·rename_i hc
    simp only [Bool.and_eq_true,beq_iff_eq] at hc
    have hj1:=wf.more j k (by omega)
    exact (ended_ge wf (pCall_ge wf hj1) fun x m h=>(by have:=pCall_facts wf hj1 h;omega)).le (by omega)
   ·exact ended_ge wf (e2 j k) (e1 j k)
  ·have k:=(pMust_facts wf hi hx).1
   by_cases hk1:(tk l j).kind=1
   ·have hj1:=wf.more j k (by omega)
    refine Imp.next (l:=l) (i:=j) ?_ fun hJ1=>?_
    ·split
     ·exact ended_ge wf (pCall_ge wf hj1) fun x m h=>(by have:=pCall_facts wf hj1 h;omega)
     ·have e3:Ge (j+1) (bindR (pE l f .expr d j) fun e m=>okR (sdE 1 n (e.flat 0)) m):=(pE_name wf ag (.inr (.inr rfl)) k hk1).bind fun y m hy=>.ok (pE_name wf ag (.inr (.inr rfl)) k hk1 _ hy)
      exact ended_ge wf e3 fun x m h=>⟨(e1 j k x m h).1,e3 _ h⟩
    ·unfold isOpen
     rw [ag.kind j hj,ag.text j hj,ag.kind (j+1) hJ1,ag.text (j+1) hJ1]
     split
     ·exact ended_to wf ag (pCall_to wf ag hf hj1 hJ1) fun x m h=>(pCall_facts wf hj1 h).1
     ·exact ended_to wf ag ((pE_to wf ag f f' .expr d j hf k hj).bind (fun _ m _=>.ok (Nat.le_refl _)) fun _ m _ _=>.refl _) fun x m h=>(e1 j k x m h).1
   ·have c1:((tk l j).kind == 1)=false:=by rw [beq_eq_false_iff_ne];exact hk1
    rw [ag.kind j hj,c1]
    simp only [Bool.false_and,Bool.false_eq_true,if_false]
    exact ended_to wf ag ((pE_to wf ag f f' .expr d j hf k hj).bind (fun _ m _=>.ok (Nat.le_refl _)) fun _ m _ _=>.refl _) fun x m h=>(e1 j k x m h).1
theorem pS_to:∀ (f f':Nat) (lv:Ls) (d:Int) (i:Nat),f≤f'→i < l.length→i≤J→Imp J (pS l f lv d i) (pS l' f' lv d i):=by
 intro f
 induction f with
 |zero=>intro f' lv d i hf hi hJ res h;cases h
 |succ f ih=>
  intro f' lv d i hf hi hJ
  obtain ⟨f',rfl⟩:∃ g,f'=g+1:=⟨f' - 1,by omega⟩
  have hf:f≤f':=by omega
  cases lv with
  |stmts acc=>
   simp only [pS]
   rw [ag.isT hJ]
   split
   ·exact .refl _
   ·exact (ih f' .stmt d i hf hi hJ).bind (fun x j hx=>pS_ge wf (pS_facts wf f _ d i x j hi hx).1) fun x j hx hj=>ih f' _ d j hf (pS_facts wf f _ d i x j hi hx).1 hj
  |block=>
   simp only [pS]
   rw [ag.isT hJ]
   split
   ·rename_i ht
    have hi1:=wf.more i hi (isT_kind ht)
    split
    ·exact .refl _
    ·refine Imp.next (l:=l) (i:=i) ((pS_ge wf hi1).bind fun x j hx=>(close_ge wf).le (by have:=(pS_facts wf f _ _ _ x j hi1 hx).2.1;omega)) fun hJ1=>?_
     refine (ih f' _ _ (i+1) hf hi1 hJ1).bind (fun x j hx=>close_ge wf) fun x j hx hj=>?_
     rw [ag.isT hj];exact .refl _
   ·exact .refl _
  |stmt=>
   have one:∀ {r r':Res' SD},Imp J r r'→Imp J (bindR r fun s j=>okR [s] j) (bindR r' fun s j=>okR [s] j):=fun h=>h.bind (fun _ m _=>.ok (Nat.le_refl _)) fun _ m _ _=>.refl _
   have oneG:∀ {r:Res' SD},Ge (i+1) r→Ge (i+1) (bindR r fun s j=>okR [s] j):=fun h=>h.bind fun x m hx=>.ok (h _ hx)
   simp only [pS]
   simp only [ag.isT hJ,ag.kind i hJ,ag.text i hJ]
   split
   ·rename_i hk
    have hi1:=wf.more i hi (by omega)
    exact Imp.next (l:=l) (i:=i) (oneG (pNamed_ge wf hi1)) fun hJ1=>one (pNamed_to wf ag hf hi1 hJ1)
   split
   ·rename_i hk
    have hi1:=wf.more i hi (isT_kind hk)
    have f1:∀ x m,(bindR (pName l d (i+1)) fun n j=>okR (sdE 2 n []) j)=some (.ok (x,m))→m < l.length∧i+1≤m:=fun x m h=>by
     obtain ⟨z,m2,h3,h4⟩:=bindR_ok h
     have:=pName_facts wf hi1 h3
     cases h4
     omega
    exact Imp.next (l:=l) (i:=i) (oneG (ended_ge wf ((pName_ge wf hi1).bind fun z m2 h3=>.ok (by have:=pName_facts wf hi1 h3;omega)) f1)) fun hJ1=>one (ended_to wf ag ((pName_to wf ag hJ1).bind (fun _ m _=>.ok (Nat.le_refl _)) fun _ m _ _=>.refl _) fun x m h=>(f1 x m h).1)
   have cnd:∀ (k:Int),(tk l i).kind≠0→Imp J (bindR (ended l d (bindR (pE l f .cond d (i+1)) fun e j=>okR (sdE k noS (e.flat 0)) j)) fun s j=>okR [s] j) (bindR (ended l' d (bindR (pE l' f' .cond d (i+1)) fun e j=>okR (sdE k noS (e.flat 0)) j)) fun s j=>okR [s] j):=fun k hk=>by
    have hi1:=wf.more i hi hk
    have f1:∀ x m,(bindR (pE l f .cond d (i+1)) fun e j=>okR (sdE k noS (e.flat 0)) j)=some (.ok (x,m))→m < l.length∧i+1≤m:=fun x m h=>by
     obtain ⟨z,m2,h3,h4⟩:=bindR_ok h
     have:=pE_facts wf f _ d _ z m2 hi1 h3
     cases h4
     omega
    exact Imp.next (l:=l) (i:=i) (oneG (ended_ge wf ((pE_ge wf hi1).bind fun z m2 h3=>.ok (pE_facts wf f _ d _ z m2 hi1 h3).2.1) f1)) fun hJ1=>one (ended_to wf ag ((pE_to wf ag f f' _ d (i+1) hf hi1 hJ1).bind (fun _ m _=>.ok (Nat.le_refl _)) fun _ m _ _=>.refl _) fun x m h=>(f1 x m h).1)
   split
   ·rename_i hk;exact cnd 3 (isT_kind hk)
   split
   ·rename_i hk;exact cnd 4 (isT_kind hk)
   split
   ·rename_i hk
    have hi1:=wf.more i hi (isT_kind hk)
    have f1:∀ x m,(okR (sdE 9 noS []) (i+1):Res' SD)=some (.ok (x,m))→m < l.length∧i+1≤m:=fun x m h=>by cases h;omega
    exact Imp.next (l:=l) (i:=i) (oneG (ended_ge wf (.ok (Nat.le_refl _)) f1)) fun hJ1=>one (ended_to wf ag (.refl _) fun x m h=>(f1 x m h).1)
   split
   ·rename_i hk
    have hi1:=wf.more i hi (isT_kind hk)
    have g3:∀ x b m,m < l.length→Ge m (if isT l m kElse=true then bindR (pS l f .block d (m+1)) fun b2 m2=>okR [SD.mk 5 noS noS (Ex.flat 0 x) [] b b2] m2 else okR [SD.mk 5 noS noS (Ex.flat 0 x) [] b []] m):=fun x b m hm=>by
     split
     ·rename_i hk2
      have hm1:=wf.more m hm (isT_kind hk2)
      exact ((pS_ge wf hm1).le (by omega)).bind fun y m2 hy=>.ok (by have:=pS_facts wf f _ d _ y m2 hm1 hy;omega)
     ·exact .ok (Nat.le_refl _)
    have g2:∀ x j,j < l.length→Ge j (bindR (pS l f .block d j) fun b m=>if isT l m kElse=true then bindR (pS l f .block d (m+1)) fun b2 m2=>okR [SD.mk 5 noS noS (Ex.flat 0 x) [] b b2] m2 else okR [SD.mk 5 noS noS (Ex.flat 0 x) [] b []] m):=fun x j hj=>(pS_ge wf hj).bind fun b m hb=>(g3 x b m (pS_facts wf f _ d _ b m hj hb).1).le (by have:=pS_facts wf f _ d _ b m hj hb;omega)
    refine Imp.next (l:=l) (i:=i) ((pE_ge wf hi1).bind fun x j hx=>(g2 x j (pE_facts wf f _ d _ x j hi1 hx).1).le (pE_facts wf f _ d _ x j hi1 hx).2.1) fun hJ1=>?_
    refine (pE_to wf ag f f' _ d (i+1) hf hi1 hJ1).bind (fun x j hx=>g2 x j (pE_facts wf f _ d _ x j hi1 hx).1) fun x j hx hj=>?_
    have k1:=(pE_facts wf f _ d _ x j hi1 hx).1
    refine (ih f' .block d j hf k1 hj).bind (fun b m hb=>g3 x b m (pS_facts wf f _ d _ b m k1 hb).1) fun b m hb hm=>?_
    have k2:=(pS_facts wf f _ d _ b m k1 hb).1
    rw [ag.isT hm]
    split
    ·rename_i hk2
     have hm1:=wf.more m k2 (isT_kind hk2)
     exact Imp.next (l:=l) (i:=m) ((pS_ge wf hm1).bind fun y m2 hy=>.ok (by have:=pS_facts wf f _ d _ y m2 hm1 hy;omega)) fun hJ2=>(ih f' .block d (m+1) hf hm1 hJ2).bind (fun _ m _=>.ok (Nat.le_refl _)) fun _ m _ _=>.refl _
    ·exact .refl _
   split
   ·rename_i hk
    have hi1:=wf.more i hi (isT_kind hk)
    have g2:∀ x j,j < l.length→Ge j (bindR (pS l f .block d j) fun b m=>okR [SD.mk 6 noS noS (Ex.flat 0 x) [] b []] m):=fun x j hj=>(pS_ge wf hj).bind fun b m hb=>.ok (by have:=pS_facts wf f _ d _ b m hj hb;omega)
    refine Imp.next (l:=l) (i:=i) ((pE_ge wf hi1).bind fun x j hx=>(g2 x j (pE_facts wf f _ d _ x j hi1 hx).1).le (pE_facts wf f _ d _ x j hi1 hx).2.1) fun hJ1=>?_
    refine (pE_to wf ag f f' _ d (i+1) hf hi1 hJ1).bind (fun x j hx=>g2 x j (pE_facts wf f _ d _ x j hi1 hx).1) fun x j hx hj=>?_
    have k1:=(pE_facts wf f _ d _ x j hi1 hx).1
    exact (ih f' .block d j hf k1 hj).bind (fun _ m _=>.ok (Nat.le_refl _)) fun _ m _ _=>.refl _
   split
   ·rename_i hk
    have hi1:=wf.more i hi (isT_kind hk)
    have g3:∀ b m,m < l.length→Ge m (bindR (pS l f .block d m) fun b2 m2=>okR [SD.mk 7 noS noS [] [] b b2] m2):=fun b m hm=>(pS_ge wf hm).bind fun y m2 hy=>.ok (by have:=pS_facts wf f _ d _ y m2 hm hy;omega)
    have g2:∀ b j,j < l.length→Ge j (bindR (pMust l tOr d j) fun _ m=>bindR (pS l f .block d m) fun b2 m2=>okR [SD.mk 7 noS noS [] [] b b2] m2):=fun b j hj=>(pMust_ge wf hj).bind fun y m hy=>(g3 b m (pMust_facts wf hj hy).1).le (by have:=pMust_facts wf hj hy;omega)
    refine Imp.next (l:=l) (i:=i) ((pS_ge wf hi1).bind fun x j hx=>(g2 x j (pS_facts wf f _ d _ x j hi1 hx).1).le (by have:=pS_facts wf f _ d _ x j hi1 hx;omega)) fun hJ1=>?_
    refine (ih f' .block d (i+1) hf hi1 hJ1).bind (fun x j hx=>g2 x j (pS_facts wf f _ d _ x j hi1 hx).1) fun x j hx hj=>?_
    have k1:=(pS_facts wf f _ d _ x j hi1 hx).1
    refine (pMust_to wf ag hj).bind (fun y m hy=>g3 x m (pMust_facts wf k1 hy).1) fun y m hy hm=>?_
    exact (ih f' .block d m hf (pMust_facts wf k1 hy).1 hm).bind (fun _ m _=>.ok (Nat.le_refl _)) fun _ m _ _=>.refl _
   exact .refl _
theorem pVars_to:∀ (f f':Nat) (acc:List ByteArray) (d:Int) (i:Nat),f≤f'→i < l.length→i≤J→Imp J (pVars l f acc d i) (pVars l' f' acc d i):=by
 intro f
 induction f with
 |zero=>intro f' acc d i hf hi hJ res h;cases h
 |succ f ih=>
  intro f' acc d i hf hi hJ
  obtain ⟨f',rfl⟩:∃ g,f'=g+1:=⟨f' - 1,by omega⟩
  have hf:f≤f':=by omega
  unfold pVars
  rw [ag.isT hJ]
  split
  ·rename_i hk
   have hi1:=wf.more i hi (isT_kind hk)
   have g2:∀ n j,j < l.length→Ge j (bindR (pMust l (tc 59) d j) fun _ m=>pVars l f (acc ++ [n]) d m):=fun n j hj=>(pMust_ge wf hj).bind fun y m hy=>(pVars_ge wf (pMust_facts wf hj hy).1).le (by have:=pMust_facts wf hj hy;omega)
   refine Imp.next (l:=l) (i:=i) ((pName_ge wf hi1).bind fun x j hx=>(g2 x j (pName_facts wf hi1 hx).1).le (by have:=pName_facts wf hi1 hx;omega)) fun hJ1=>?_
   refine (pName_to wf ag hJ1).bind (fun x j hx=>g2 x j (pName_facts wf hi1 hx).1) fun x j hx hj=>?_
   have k1:=(pName_facts wf hi1 hx).1
   exact (pMust_to wf ag hj).bind (fun y m hy=>pVars_ge wf (pMust_facts wf k1 hy).1) fun y m hy hm=>ih f' _ d m hf (pMust_facts wf k1 hy).1 hm
  ·exact .refl _
theorem pProc_to {f f' i:Nat} (hf:f≤f') (hi:i < l.length) (hJ:i≤J):Imp J (pProc l f i) (pProc l' f' i):=by
 unfold pProc
 have g9:∀ (p:PD) i,i < l.length→Ge i (bindR (pMust l (tc 125) 0 i) fun _ i9=>okR p i9):=fun p i hi=>(pMust_ge wf hi).bind fun y m hy=>.ok (by have:=pMust_facts wf hi hy;omega)
 have g8:∀ (p:List SD→PD) i,i < l.length→Ge i (bindR (pS l f (.stmts []) 0 i) fun b i8=>bindR (pMust l (tc 125) 0 i8) fun _ i9=>okR (p b) i9):=fun p i hi=>(pS_ge wf hi).bind fun y m hy=>(g9 _ m (pS_facts wf f _ _ _ y m hi hy).1).le (by have:=pS_facts wf f _ _ _ y m hi hy;omega)
 have g7:∀ (p:List ByteArray→List SD→PD) i,i < l.length→Ge i (bindR (pVars l f [] 0 i) fun vs i7=>bindR (pS l f (.stmts []) 0 i7) fun b i8=>bindR (pMust l (tc 125) 0 i8) fun _ i9=>okR (p vs b) i9):=fun p i hi=>(pVars_ge wf hi).bind fun y m hy=>(g8 _ m (pVars_facts wf f _ _ _ y m hi hy).1).le (by have:=pVars_facts wf f _ _ _ y m hi hy;omega)
 have g6:∀ (p:List ByteArray→List SD→PD) i,i < l.length→Ge i (bindR (pMust l (tc 123) 0 i) fun _ i6=>bindR (pVars l f [] 0 i6) fun vs i7=>bindR (pS l f (.stmts []) 0 i7) fun b i8=>bindR (pMust l (tc 125) 0 i8) fun _ i9=>okR (p vs b) i9):=fun p i hi=>(pMust_ge wf hi).bind fun y m hy=>(g7 _ m (pMust_facts wf hi hy).1).le (by have:=pMust_facts wf hi hy;omega)
 have f5:∀ i4,i4 < l.length→∀ x5 i5,(if isT l i4 ⟨#[45,62]⟩=true then pName l 0 (i4+1) else okR noS i4)=some (.ok (x5,i5))→i5 < l.length∧i4≤i5:=fun i4 k4 x5 i5 h5=>by
  split at h5
  ·rename_i ht
   have:=pName_facts wf (wf.more i4 k4 (isT_kind ht)) h5
   omega
  ·cases h5;exact ⟨k4,Nat.le_refl _⟩
 have g5:∀ (p:ByteArray→List ByteArray→List SD→PD) i,i < l.length→Ge i (bindR (if isT l i ⟨#[45,62]⟩=true then pName l 0 (i+1) else okR noS i) fun r i5=>bindR (pMust l (tc 123) 0 i5) fun _ i6=>bindR (pVars l f [] 0 i6) fun vs i7=>bindR (pS l f (.stmts []) 0 i7) fun b i8=>bindR (pMust l (tc 125) 0 i8) fun _ i9=>okR (p r vs b) i9):=fun p i hi=>by
  refine Ge.bind ?_ fun y m hy=>(g6 _ m (f5 i hi y m hy).1).le (f5 i hi y m hy).2
  split
  ·rename_i ht
   exact (pName_ge wf (wf.more i hi (isT_kind ht))).le (by omega)
  ·exact .ok (Nat.le_refl _)
 have g4:∀ (p:List ByteArray→ByteArray→List ByteArray→List SD→PD) i,i < l.length→Ge i (bindR (pNames0 l f 0 i) fun ps i4=>bindR (if isT l i4 ⟨#[45,62]⟩=true then pName l 0 (i4+1) else okR noS i4) fun r i5=>bindR (pMust l (tc 123) 0 i5) fun _ i6=>bindR (pVars l f [] 0 i6) fun vs i7=>bindR (pS l f (.stmts []) 0 i7) fun b i8=>bindR (pMust l (tc 125) 0 i8) fun _ i9=>okR (p ps r vs b) i9):=fun p i hi=>(pNames0_ge wf hi).bind fun y m hy=>(g5 _ m (pNames0_facts wf hi hy).1).le (by have:=pNames0_facts wf hi hy;omega)
 have g3:∀ (p:List ByteArray→ByteArray→List ByteArray→List SD→PD) i,i < l.length→Ge i (bindR (pMust l (tc 40) 0 i) fun _ i3=>bindR (pNames0 l f 0 i3) fun ps i4=>bindR (if isT l i4 ⟨#[45,62]⟩=true then pName l 0 (i4+1) else okR noS i4) fun r i5=>bindR (pMust l (tc 123) 0 i5) fun _ i6=>bindR (pVars l f [] 0 i6) fun vs i7=>bindR (pS l f (.stmts []) 0 i7) fun b i8=>bindR (pMust l (tc 125) 0 i8) fun _ i9=>okR (p ps r vs b) i9):=fun p i hi=>(pMust_ge wf hi).bind fun y m hy=>(g4 _ m (pMust_facts wf hi hy).1).le (by have:=pMust_facts wf hi hy;omega)
 have g2:∀ (p:ByteArray→List ByteArray→ByteArray→List ByteArray→List SD→PD) i,i < l.length→Ge i (bindR (pName l 0 i) fun n i2=>bindR (pMust l (tc 40) 0 i2) fun _ i3=>bindR (pNames0 l f 0 i3) fun ps i4=>bindR (if isT l i4 ⟨#[45,62]⟩=true then pName l 0 (i4+1) else okR noS i4) fun r i5=>bindR (pMust l (tc 123) 0 i5) fun _ i6=>bindR (pVars l f [] 0 i6) fun vs i7=>bindR (pS l f (.stmts []) 0 i7) fun b i8=>bindR (pMust l (tc 125) 0 i8) fun _ i9=>okR (p n ps r vs b) i9):=fun p i hi=>(pName_ge wf hi).bind fun y m hy=>(g3 _ m (pName_facts wf hi hy).1).le (by have:=pName_facts wf hi hy;omega)
 refine (pMust_to wf ag hJ).bind (fun x j hx=>g2 (fun n ps r vs b=>⟨n,ps,r,vs,b⟩) j (pMust_facts wf hi hx).1) fun _ i1 h1 j1=>?_
 have k1:=(pMust_facts wf hi h1).1
 refine (pName_to wf ag j1).bind (fun x j hx=>g3 (fun ps r vs b=>⟨x,ps,r,vs,b⟩) j (pName_facts wf k1 hx).1) fun n i2 h2 j2=>?_
 have k2:=(pName_facts wf k1 h2).1
 refine (pMust_to wf ag j2).bind (fun x j hx=>g4 (fun ps r vs b=>⟨n,ps,r,vs,b⟩) j (pMust_facts wf k2 hx).1) fun _ i3 h3 j3=>?_
 have k3:=(pMust_facts wf k2 h3).1
 refine (pNames0_to wf ag hf k3 j3).bind (fun x j hx=>g5 (fun r vs b=>⟨n,x,r,vs,b⟩) j (pNames0_facts wf k3 hx).1) fun ps i4 h4 j4=>?_
 have k4:=(pNames0_facts wf k3 h4).1
 have t5:Imp J (if isT l i4 ⟨#[45,62]⟩=true then pName l 0 (i4+1) else okR noS i4) (if isT l' i4 ⟨#[45,62]⟩=true then pName l' 0 (i4+1) else okR noS i4):=by
  rw [ag.isT j4]
  split
  ·rename_i ht
   exact Imp.next (l:=l) (pName_ge wf (wf.more i4 k4 (isT_kind ht))) fun hJ1=>pName_to wf ag hJ1
  ·exact .refl _
 refine t5.bind (fun x j hx=>g6 (fun vs b=>⟨n,ps,x,vs,b⟩) j (f5 i4 k4 x j hx).1) fun r i5 h5 j5=>?_
 have k5:=(f5 i4 k4 r i5 h5).1
 refine (pMust_to wf ag j5).bind (fun x j hx=>g7 (fun vs b=>⟨n,ps,r,vs,b⟩) j (pMust_facts wf k5 hx).1) fun _ i6 h6 j6=>?_
 have k6:=(pMust_facts wf k5 h6).1
 refine (pVars_to wf ag f f' _ 0 i6 hf k6 j6).bind (fun x j hx=>g8 (fun b=>⟨n,ps,r,x,b⟩) j (pVars_facts wf f _ _ _ x j k6 hx).1) fun vs i7 h7 j7=>?_
 have k7:=(pVars_facts wf f _ _ _ vs i7 k6 h7).1
 refine (pS_to wf ag f f' _ 0 i7 hf k7 j7).bind (fun x j hx=>g9 ⟨n,ps,r,vs,x⟩ j (pS_facts wf f _ _ _ x j k7 hx).1) fun b i8 h8 j8=>?_
 have k8:=(pS_facts wf f _ _ _ b i8 k7 h8).1
 exact (pMust_to wf ag j8).bind (fun _ m _=>.ok (Nat.le_refl _)) fun _ m _ _=>.refl _
theorem pProg_to:∀ (f f':Nat) (acc:List PD) (i:Nat),f≤f'→i < l.length→i≤J→Imp J (pProg l f acc i) (pProg l' f' acc i):=by
 intro f
 induction f with
 |zero=>intro f' acc i hf hi hJ res h;cases h
 |succ f ih=>
  intro f' acc i hf hi hJ
  obtain ⟨f',rfl⟩:∃ g,f'=g+1:=⟨f' - 1,by omega⟩
  have hf:f≤f':=by omega
  unfold pProg
  have g:∀ p j,j < l.length→Ge j (if (tk l j).kind=0 then okR (acc ++ [p]) j else pProg l f (acc ++ [p]) j):=fun p j hj=>by
   split
   ·exact .ok (Nat.le_refl _)
   ·refine .of (pProg_err wf f _ j hj) fun x m h=>?_
    have:∀ (f:Nat) (acc:List PD) (i:Nat) (x:List PD) (m:Nat),i < l.length→pProg l f acc i=some (.ok (x,m))→i≤m:=by
     intro f
     induction f with
     |zero=>intro acc i x m hi h;cases h
     |succ f ih=>
      intro acc i x m hi h
      unfold pProg at h
      obtain ⟨p,j,h1,h2⟩:=bindR_ok h
      have k:=pProc_facts wf hi h1
      split at h2
      ·cases h2;omega
      ·have:=ih _ j x m k.1 h2
       omega
    exact this f _ j x m hj h
  refine (pProc_to wf ag hf hi hJ).bind (fun x j hx=>g x j (pProc_facts wf hi hx).1) fun p j hx hj=>?_
  rw [ag.kind j hj]
  split
  ·exact .refl _
  ·exact ih f' _ j hf (pProc_facts wf hi hx).1 hj
end
end Go.Proofs.Hk

set_option linter.unusedSimpArgs false
set_option linter.unusedVariables false
set_option linter.unusedSectionVars false
namespace Go.Proofs.Hk
open Go Go.Proofs
/-! All rows that are read are short. -/
mutual
def smS:SD→Prop
 |.mk _ _ _ e a b el=>e.length≤8193∧(a.length≤8193∧∀ x∈a,x.length≤8193)∧(b.length≤8193∧smL b)∧(el.length≤8193∧smL el)
def smL:List SD→Prop
 |[]=>True
 |s::l=>smS s∧smL l
end
theorem smL_all:∀ {l:List SD},smL l↔∀ s∈l,smS s
 |[]=>by simp [smL]
 |s::l=>by simp [smL,smL_all]
def smP (p:PD):Prop:=p.params.length≤8193∧p.vars.length≤8193∧p.body.length≤8193∧smL p.body
section
variable {l:List Tk} (wf:WfT l)
include wf
theorem pE_sm {f:Nat} {lv:Lv} {d:Int} {i:Nat} {e:Ex} {j:Nat} (h0:lv.base=0) (hi:i < l.length) (h:pE l f lv d i=some (.ok (e,j))):(e.flat 0).length≤8193:=by
 have:=pE_facts wf f lv d i e j hi h
 have:=wf.len
 omega
theorem pArgs_sm:∀ (f:Nat) (acc:List (List ND)) (d:Int) (i:Nat) (a:List (List ND)) (j:Nat),i < l.length→pArgs l f acc d i=some (.ok (a,j))→(∀ x∈acc,x.length≤8193)→(∀ x∈a,x.length≤8193)∧a.length≤acc.length+(j - i):=by
 intro f
 induction f with
 |zero=>intro acc d i a j hi h;cases h
 |succ f ih=>
  intro acc d i a j hi h ha
  unfold pArgs at h
  obtain ⟨x,m,h1,h2⟩:=bindR_ok h
  have k1:=pE_facts wf f _ d i x m hi h1
  have s1:=pE_sm wf rfl hi h1
  have ha':∀ y∈acc ++ [x.flat 0],y.length≤8193:=fun y hy=>by
   rcases List.mem_append.1 hy with hy|hy
   ·exact ha y hy
   ·simp only [List.mem_singleton] at hy;subst hy;exact s1
  split at h2
  ·rename_i ht
   have hm:=wf.more m k1.1 (isT_kind ht)
   have:=ih _ d _ a j hm h2 ha'
   have g:=pArgs_facts wf f _ d _ a j hm h2
   refine ⟨this.1,?_⟩
   simp only [List.length_append,List.length_singleton] at this
   omega
  split at h2
  ·rename_i ht
   cases h2
   refine ⟨ha',?_⟩
   simp only [List.length_append,List.length_singleton]
   omega
  ·cases h2
theorem pArgs0_sm {f:Nat} {d:Int} {i:Nat} {a:List (List ND)} {j:Nat} (hi:i < l.length) (h:pArgs0 l f d i=some (.ok (a,j))):a.length≤8193∧∀ x∈a,x.length≤8193:=by
 have g:=pArgs0_facts wf hi h
 have wl:=wf.len
 unfold pArgs0 at h
 split at h
 ·cases h;simp
 ·have:=pArgs_sm wf f _ d i a j hi h (fun _ h=>absurd h (List.not_mem_nil))
  simp only [List.length_nil] at this
  exact ⟨by omega,this.1⟩
theorem pNames_sm:∀ (f:Nat) (acc:List ByteArray) (d:Int) (i:Nat) (a:List ByteArray) (j:Nat),i < l.length→pNames l f acc d i=some (.ok (a,j))→a.length≤acc.length+(j - i):=by
 intro f
 induction f with
 |zero=>intro acc d i a j hi h;cases h
 |succ f ih=>
  intro acc d i a j hi h
  unfold pNames at h
  obtain ⟨x,m,h1,h2⟩:=bindR_ok h
  have k1:=pName_facts wf hi h1
  split at h2
  ·rename_i ht
   have hm:=wf.more m k1.1 (isT_kind ht)
   have:=ih _ d _ a j hm h2
   have g:=pNames_facts wf f _ d _ a j hm h2
   simp only [List.length_append,List.length_singleton] at this
   omega
  split at h2
  ·rename_i ht
   cases h2
   simp only [List.length_append,List.length_singleton]
   omega
  ·cases h2
theorem pNames0_sm {f:Nat} {d:Int} {i:Nat} {a:List ByteArray} {j:Nat} (hi:i < l.length) (h:pNames0 l f d i=some (.ok (a,j))):a.length≤8193:=by
 have g:=pNames0_facts wf hi h
 have wl:=wf.len
 unfold pNames0 at h
 split at h
 ·cases h;simp
 ·have:=pNames_sm wf f _ d i a j hi h
  simp only [List.length_nil] at this
  omega
theorem pVars_sm:∀ (f:Nat) (acc:List ByteArray) (d:Int) (i:Nat) (a:List ByteArray) (j:Nat),i < l.length→pVars l f acc d i=some (.ok (a,j))→a.length≤acc.length+(j - i):=by
 intro f
 induction f with
 |zero=>intro acc d i a j hi h;cases h
 |succ f ih=>
  intro acc d i a j hi h
  unfold pVars at h
  split at h
  ·rename_i ht
   have hi1:=wf.more i hi (isT_kind ht)
   obtain ⟨x,m,h1,h2⟩:=bindR_ok h
   have k1:=pName_facts wf hi1 h1
   obtain ⟨y,m2,h3,h4⟩:=bindR_ok h2
   have k2:=pMust_facts wf k1.1 h3
   have:=ih _ d _ a j k2.1 h4
   have g:=pVars_facts wf f _ d _ a j k2.1 h4
   simp only [List.length_append,List.length_singleton] at this
   omega
  ·cases h;omega
theorem ended_sm {d:Int} {r:Res' SD} {a:SD} {j:Nat} (hr:∀ x m,r=some (.ok (x,m))→smS x) (h:ended l d r=some (.ok (a,j))):smS a:=by
 unfold ended at h
 obtain ⟨x,m,h1,h2⟩:=bindR_ok h
 obtain ⟨y,m2,h3,h4⟩:=bindR_ok h2
 cases h4
 exact hr _ _ h1
theorem pCall_sm {f:Nat} {n p:ByteArray} {d:Int} {i:Nat} {a:SD} {j:Nat} (hi:i < l.length) (h:pCall l f n p d i=some (.ok (a,j))):smS a:=by
 unfold pCall at h
 obtain ⟨x,m,h1,h2⟩:=bindR_ok h
 have k1:=pMust_facts wf hi h1
 obtain ⟨y,m2,h3,h4⟩:=bindR_ok h2
 have k2:=pArgs0_sm wf k1.1 h3
 cases h4
 simp only [smS,smL,List.length_nil,Nat.zero_le,true_and,and_true]
 exact k2
theorem sdE_sm {k:Int} {n:ByteArray} {e:List ND} (h:e.length≤8193):smS (sdE k n e):=by
 simp only [sdE,smS,smL,List.length_nil,Nat.zero_le,true_and,and_true]
 exact ⟨h,fun _ h=>absurd h (List.not_mem_nil)⟩
theorem pNamed_sm {f:Nat} {n:ByteArray} {d:Int} {i:Nat} {a:SD} {j:Nat} (hi:i < l.length) (h:pNamed l f n d i=some (.ok (a,j))):smS a:=by
 unfold pNamed at h
 split at h
 ·exact ended_sm wf (fun x m h=>pCall_sm wf hi h) h
 ·obtain ⟨x,m,h1,h2⟩:=bindR_ok h
  have k1:=pMust_facts wf hi h1
  split at h2
  ·rename_i hc
   simp only [Bool.and_eq_true,beq_iff_eq] at hc
   exact ended_sm wf (fun x m' h=>pCall_sm wf (wf.more m k1.1 (by omega)) h) h2
  ·refine ended_sm wf (fun x m' h=>?_) h2
   obtain ⟨y,m2,h3,h4⟩:=bindR_ok h
   cases h4
   exact sdE_sm wf (pE_sm wf rfl k1.1 h3)
theorem pS_sm:∀ (f:Nat) (lv:Ls) (d:Int) (i:Nat) (b:List SD) (j:Nat),i < l.length→pS l f lv d i=some (.ok (b,j))→(∀ acc,lv = .stmts acc→smL acc)→smL b∧(lv = .block→b.length≤8193):=by
 intro f
 induction f with
 |zero=>intro lv d i b j hi h;cases h
 |succ f ih=>
  have one:∀ {r:Res' SD} {b:List SD} {j:Nat},(∀ x m,r=some (.ok (x,m))→smS x)→(bindR r fun s j=>okR [s] j)=some (.ok (b,j))→smL b:=fun {r b j} hr h=>by
   obtain ⟨x,m,h1,h2⟩:=bindR_ok h
   cases h2
   exact ⟨hr _ _ h1,trivial⟩
  have wl:=wf.len
  intro lv d i b j hi h ha
  cases lv with
  |stmts acc=>
   refine ⟨?_,fun h=>(by cases h)⟩
   simp only [pS] at h
   split at h
   ·cases h;exact ha _ rfl
   ·obtain ⟨s,m,h1,h2⟩:=bindR_ok h
    have k1:=ih .stmt d i s m hi h1 (fun _ h=>(by cases h))
    have f1:=pS_facts wf f _ d i s m hi h1
    exact (ih (.stmts (acc ++ s)) d m b j f1.1 h2 (fun a e=>by
     cases e
     rw [smL_all]
     intro x hx
     rcases List.mem_append.1 hx with hx|hx
     ·exact smL_all.1 (ha _ rfl) x hx
     ·exact smL_all.1 k1.1 x hx)).1
  |block=>
   simp only [pS] at h
   split at h
   ·rename_i ht
    split at h
    ·cases h
    ·obtain ⟨s,m,h1,h2⟩:=bindR_ok h
     have hi1:=wf.more i hi (isT_kind ht)
     have k1:=ih (.stmts []) (d+1) (i+1) s m hi1 h1 (fun a e=>by cases e;trivial)
     have f1:=pS_facts wf f _ (d+1) (i+1) s m hi1 h1
     have f2:=f1.2.2 (by simp)
     simp only [Ls.base,List.length_nil] at f2
     split at h2
     ·cases h2
      exact ⟨k1.1,fun _=>by omega⟩
     ·cases h2
   ·cases h
  |stmt=>
   refine ⟨?_,fun h=>(by cases h)⟩
   simp only [pS] at h
   split at h
   ·rename_i hk
    exact one (fun x m h=>pNamed_sm wf (wf.more i hi (by omega)) h) h
   split at h
   ·rename_i hk
    refine one (fun x m h=>ended_sm wf (fun y m' h=>?_) h) h
    obtain ⟨z,m2,h3,h4⟩:=bindR_ok h
    cases h4
    exact sdE_sm wf (by simp)
   iterate 2
    split at h
    ·rename_i hk
     have hi1:=wf.more i hi (isT_kind hk)
     refine one (fun x m h=>ended_sm wf (fun y m' h=>?_) h) h
     obtain ⟨z,m2,h3,h4⟩:=bindR_ok h
     cases h4
     exact sdE_sm wf (pE_sm wf rfl hi1 h3)
   split at h
   ·rename_i hk
    refine one (fun x m h=>ended_sm wf (fun y m' h=>?_) h) h
    cases h
    exact sdE_sm wf (by simp)
   have blk:∀ {i:Nat} {b:List SD} {j:Nat},i < l.length→pS l f .block d i=some (.ok (b,j))→j < l.length∧b.length≤8193∧smL b:=fun {i b j} hi h=>by
    have k:=ih .block d i b j hi h (fun _ h=>(by cases h))
    exact ⟨(pS_facts wf f _ d i b j hi h).1,k.2 rfl,k.1⟩
   split at h
   ·rename_i hk
    have hi1:=wf.more i hi (isT_kind hk)
    obtain ⟨z,m2,h3,h4⟩:=bindR_ok h
    have k1:=pE_facts wf f _ d (i+1) z m2 hi1 h3
    have s1:=pE_sm wf rfl hi1 h3
    obtain ⟨z2,m3,h5,h6⟩:=bindR_ok h4
    have k2:=blk k1.1 h5
    split at h6
    ·rename_i hm
     obtain ⟨z3,m4,h7,h8⟩:=bindR_ok h6
     have k3:=blk (wf.more m3 k2.1 (isT_kind hm)) h7
     cases h8
     simp only [smS,smL,List.length_nil,Nat.zero_le,true_and,and_true]
     exact ⟨s1,fun _ h=>absurd h (List.not_mem_nil),k2.2,k3.2⟩
    ·cases h6
     simp only [smS,smL,List.length_nil,Nat.zero_le,true_and,and_true]
     exact ⟨s1,fun _ h=>absurd h (List.not_mem_nil),k2.2⟩
   split at h
   ·rename_i hk
    have hi1:=wf.more i hi (isT_kind hk)
    obtain ⟨z,m2,h3,h4⟩:=bindR_ok h
    have k1:=pE_facts wf f _ d (i+1) z m2 hi1 h3
    have s1:=pE_sm wf rfl hi1 h3
    obtain ⟨z2,m3,h5,h6⟩:=bindR_ok h4
    have k2:=blk k1.1 h5
    cases h6
    simp only [smS,smL,List.length_nil,Nat.zero_le,true_and,and_true]
    exact ⟨s1,fun _ h=>absurd h (List.not_mem_nil),k2.2⟩
   split at h
   ·rename_i hk
    have hi1:=wf.more i hi (isT_kind hk)
    obtain ⟨z,m2,h3,h4⟩:=bindR_ok h
    have k1:=blk hi1 h3
    obtain ⟨z2,m3,h5,h6⟩:=bindR_ok h4
    have k2:=pMust_facts wf k1.1 h5
    obtain ⟨z3,m4,h7,h8⟩:=bindR_ok h6
    have k3:=blk k2.1 h7
    cases h8
    simp only [smS,smL,List.length_nil,Nat.zero_le,true_and,and_true]
    exact ⟨fun _ h=>absurd h (List.not_mem_nil),k1.2,k3.2⟩
   cases h
theorem pProc_sm {f i:Nat} {p:PD} {j:Nat} (hi:i < l.length) (h:pProc l f i=some (.ok (p,j))):smP p:=by
 unfold pProc at h
 obtain ⟨x1,i1,h1,h⟩:=bindR_ok h
 have k1:=pMust_facts wf hi h1
 obtain ⟨x2,i2,h2,h⟩:=bindR_ok h
 have k2:=pName_facts wf k1.1 h2
 obtain ⟨x3,i3,h3,h⟩:=bindR_ok h
 have k3:=pMust_facts wf k2.1 h3
 obtain ⟨x4,i4,h4,h⟩:=bindR_ok h
 have k4:=pNames0_facts wf k3.1 h4
 have s4:=pNames0_sm wf k3.1 h4
 obtain ⟨x5,i5,h5,h⟩:=bindR_ok h
 have k5:i5 < l.length∧i4≤i5:=by
  split at h5
  ·rename_i ht
   have:=pName_facts wf (wf.more i4 k4.1 (isT_kind ht)) h5
   omega
  ·cases h5;exact ⟨k4.1,Nat.le_refl _⟩
 obtain ⟨x6,i6,h6,h⟩:=bindR_ok h
 have k6:=pMust_facts wf k5.1 h6
 obtain ⟨x7,i7,h7,h⟩:=bindR_ok h
 have k7:=pVars_facts wf _ _ _ _ _ _ k6.1 h7
 have s7:=pVars_sm wf _ _ _ _ _ _ k6.1 h7
 obtain ⟨x8,i8,h8,h⟩:=bindR_ok h
 have k8:=pS_facts wf _ _ _ _ _ _ k7.1 h8
 have s8:=pS_sm wf _ _ _ _ _ _ k7.1 h8 (fun a e=>by cases e;trivial)
 obtain ⟨x9,i9,h9,h⟩:=bindR_ok h
 cases h
 have wl:=wf.len
 have k82:=k8.2.2 (by simp)
 simp only [Ls.base,List.length_nil] at *
 exact ⟨s4,by show x7.length≤_;omega,by show x8.length≤_;omega,s8.1⟩
theorem pProg_sm:∀ (f:Nat) (acc:List PD) (i:Nat) (b:List PD) (j:Nat),i < l.length→pProg l f acc i=some (.ok (b,j))→(∀ p∈acc,smP p)→(∀ p∈b,smP p)∧b.length≤acc.length+(j - i)∧i≤j∧j < l.length:=by
 intro f
 induction f with
 |zero=>intro acc i b j hi h;cases h
 |succ f ih=>
  intro acc i b j hi h ha
  unfold pProg at h
  obtain ⟨p,m,h1,h2⟩:=bindR_ok h
  have k:=pProc_facts wf hi h1
  have s:=pProc_sm wf hi h1
  have ha':∀ y∈acc ++ [p],smP y:=fun y hy=>by
   rcases List.mem_append.1 hy with hy|hy
   ·exact ha y hy
   ·simp only [List.mem_singleton] at hy;subst hy;exact s
  split at h2
  ·cases h2
   refine ⟨ha',?_,by omega,k.1⟩
   simp only [List.length_append,List.length_singleton]
   omega
  ·have:=ih _ m b j k.1 h2 ha'
   simp only [List.length_append,List.length_singleton] at this
   exact ⟨this.1,by omega,by omega,this.2.2.2⟩
end
end Go.Proofs.Hk

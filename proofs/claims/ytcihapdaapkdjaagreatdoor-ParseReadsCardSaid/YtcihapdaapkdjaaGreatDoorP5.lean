import Derived.Test.YtcihapdaapkdjaaGreatDoorQ5
import Derived.Test.YtcihapdaapkdjaaGreatDoorP2
set_option linter.unusedSimpArgs false
set_option linter.unusedVariables false
namespace Go.Proofs.Hk
open Go Go.Proofs
/-! What the lexer gives is what the parser leans on. -/
theorem lx_scan {p:Int→Bool} {s:ByteArray} : ∀ {n i:Nat},s.size - i=n→∀ q,i≤q→q < scan p s i→p (byteAt s q)=true
 |0,i,hn,q,h1,h2=>by
  rw [scan_end (by omega)] at h2;omega
 |n+1,i,hn,q,h1,h2=>by
  cases hp:p (byteAt s i) with
  |false=>rw [scan_no hp] at h2;omega
  |true=>
   rcases Nat.eq_or_lt_of_le h1 with rfl|h1
   ·exact hp
   ·rw [←scan_yes (by omega) hp] at h2
    exact lx_scan (n:=n) (by omega) q (by omega) h2
theorem lx_err_ne {s:ByteArray} {i:Nat} {e:Int} (h:nxt s i = .err e):e≠0:=by
 unfold nxt at h
 repeat' split at h
 all_goals first|(rename_i hn;cases h;exact hn)|(cases h;decide)|cases h
theorem lexL_ne0 (s:ByteArray) (i:Nat) (e:Int × Nat) (h:lexL s i = .error e):e.1≠0:=by
 unfold lexL at h
 split at h
 ·split at h
  ·rename_i j _
   exact lexL_ne0 s (max (i+1) j) e h
  ·rename_i t j _
   split at h
   ·cases h
   ·rename_i e' he
    cases h
    exact lexL_ne0 s (max (i+1) j) e he
  ·rename_i e' hn
   cases h
   exact lx_err_ne hn
 ·cases h
termination_by s.size - i
theorem lexR_ne0 {s:ByteArray} {e:Int × Nat} (h:lexR s = .error e):e.1≠0:=by
 unfold lexR at h
 split at h
 ·cases h;decide
 ·exact lexL_ne0 s 0 e h
/-- A token that is none of the end. -/
structure TokOK (t:Tk):Prop where
 kind:t.kind≠0
 num:t.kind=2→DigS t.text
 word:¬ (t.kind=4∨t.kind=3)→0 < t.text.size∧(letterZ (byteAt t.text 0)=true∨digitZ (byteAt t.text 0)=true)
theorem byte_extract {s:ByteArray} {a b k:Nat} (h:a+k < b) (hb:b≤s.size):byteAt (s.extract a b) (k:Nat)=byteAt s ((a+k:Nat):Int):=by
 unfold byteAt
 simp only [Int.toNat_natCast]
 congr 1
 simp only [List.getD_eq_getElem?_getD,ByteArray.data_extract,Array.toList_extract,List.extract_eq_take_drop,List.getElem?_take,List.getElem?_drop]
 rw [if_pos (by omega)]
theorem size_extract {s:ByteArray} {a b:Nat} (hb:b≤s.size):(s.extract a b).size=b - a:=by
 simp only [ByteArray.size_extract];omega
theorem nxt_ok {s:ByteArray} {i j:Nat} {t:Tk} (hi:i < s.size) (h:nxt s i = .tok t j):TokOK t:=by
 unfold nxt at h
 split at h
 ·cases h
 split at h
 ·cases h
 split at h
 ·rename_i hl
  split at h
  ·cases h
  ·cases h
   have e1:i < scan wordZ s i:=scan_lt hi (by simp [wordZ,hl])
   have e2:=scan_le wordZ s i (by omega)
   refine ⟨by simp only [];split<;>decide,fun h=>(by simp only [] at h;split at h<;>cases h),fun _=>⟨by simp only [];rw [size_extract e2];omega,.inl ?_⟩⟩
   have:=byte_extract (s:=s) (a:=i) (b:=scan wordZ s i) (k:=0) (by omega) e2
   simp only [Nat.add_zero] at this
   exact (congrArg letterZ this).trans hl
 split at h
 ·rename_i hd
  split at h
  ·cases h
  ·rename_i hn
   cases h
   have e1:i < scan digitZ s i:=scan_lt hi hd
   have e2:=scan_le digitZ s i (by omega)
   have hz:=size_extract (s:=s) (a:=i) e2
   refine ⟨by simp only [];decide,fun _=>⟨by simp only [];omega,?_,fun x hx=>?_⟩,fun _=>⟨by simp only [];omega,.inr ?_⟩⟩
   ·simp only []
    have hn:numberS (s.extract i (scan digitZ s i)) (decide (scan digitZ s i < s.size) && wordZ (byteAt s (scan digitZ s i)))=0:=Classical.byContradiction hn
    unfold numberS at hn
    split at hn
    ·cases hn
    ·omega
   ·obtain ⟨k,hk,rfl⟩:=List.mem_iff_getElem.1 hx
    have hk':k < scan digitZ s i - i:=by
     have e3:(s.extract i (scan digitZ s i)).data.toList.length=(s.extract i (scan digitZ s i)).size:=Array.length_toList
     rw [hz] at e3
     have hk:k < (s.extract i (scan digitZ s i)).data.toList.length:=hk
     omega
    have b1:=byte_extract (s:=s) (a:=i) (b:=scan digitZ s i) (k:=k) (by omega) e2
    have b2:=lx_scan (p:=digitZ) (s:=s) (i:=i) rfl (i+k) (by omega) (by omega)
    rw [←b1] at b2
    unfold byteAt at b2
    simp only [Int.toNat_natCast,List.getD_eq_getElem?_getD,List.getElem?_eq_getElem hk,Option.getD_some,digitZ,Bool.and_eq_true,decide_eq_true_eq] at b2
    show 48≤(s.extract i (scan digitZ s i)).data.toList[k].toNat∧(s.extract i (scan digitZ s i)).data.toList[k].toNat≤57
    omega
   ·have:=byte_extract (s:=s) (a:=i) (b:=scan digitZ s i) (k:=0) (by omega) e2
    simp only [Nat.add_zero] at this
    exact (congrArg digitZ this).trans hd
 split at h
 ·cases h
 ·cases h
  exact ⟨by simp only [];decide,fun h=>(by cases h),fun h=>absurd (.inl rfl) h⟩
theorem lexL_ok (s:ByteArray) (i:Nat) (l:List Tk) (h:lexL s i = .ok l):∃ m:List Tk,l=m ++ [⟨0,⟨#[]⟩,s.size⟩]∧(∀ t∈m,TokOK t)∧m.length≤s.size - i:=by
 unfold lexL at h
 split at h
 ·rename_i hi
  split at h
  ·rename_i j _
   obtain ⟨m,e,h1,h2⟩:=lexL_ok s (max (i+1) j) l h
   exact ⟨m,e,h1,by omega⟩
  ·rename_i t j hn
   split at h
   ·rename_i l' hl'
    obtain ⟨m,e,h1,h2⟩:=lexL_ok s (max (i+1) j) l' hl'
    simp only [Except.ok.injEq] at h
    subst h
    refine ⟨t::m,by rw [e];rfl,fun x hx=>?_,by simp only [List.length_cons];omega⟩
    rcases List.mem_cons.1 hx with rfl|hx
    ·exact nxt_ok hi hn
    ·exact h1 x hx
   ·cases h
  ·cases h
 ·simp only [Except.ok.injEq] at h
  exact ⟨[],by rw [←h];rfl,fun _ hx=>absurd hx (List.not_mem_nil),Nat.zero_le _⟩
termination_by s.size - i
theorem wfn_of {m:List Tk} {n:Nat} (h:∀ t∈m,TokOK t) (hl:m.length≤8192):WfN (m ++ [⟨0,⟨#[]⟩,n⟩]):=by
 have at1:∀ i,i < m.length→∃ t,t∈m∧tk (m ++ [⟨0,⟨#[]⟩,n⟩]) i=t:=fun i hi=>⟨m[i],List.getElem_mem hi,by
  simp [tk,List.getD_eq_getElem?_getD,List.getElem?_append_left hi,hi]⟩
 have at2:∀ i,¬ i < m.length→i < (m ++ [⟨0,⟨#[]⟩,n⟩]:List Tk).length→tk (m ++ [⟨0,⟨#[]⟩,n⟩]) i=⟨0,⟨#[]⟩,n⟩:=fun i hi h2=>by
  simp only [List.length_append,List.length_singleton] at h2
  have:i=m.length:=by omega
  subst this
  simp [tk,List.getD_eq_getElem?_getD]
 refine ⟨⟨fun i hi hk=>?_,by simp;omega⟩,fun i hi hk=>?_,fun i hi hk s hs=>?_⟩
 ·simp only [List.length_append,List.length_singleton] at hi ⊢
  rcases Nat.lt_or_ge i m.length with h1|h1
  ·omega
  ·exact absurd (by rw [at2 i (by omega) (by simp;omega)]) hk
 ·rcases Nat.lt_or_ge i m.length with h1|h1
  ·obtain ⟨t,ht,e⟩:=at1 i h1
   rw [e] at hk ⊢
   exact (h t ht).num hk
  ·rw [at2 i (by omega) hi] at hk
   cases hk
 ·have hne:∀ s∈[tEq,tNe,tc 60,tLe,tc 62,tGe],0 < s.size∧letterZ (byteAt s 0)=false∧digitZ (byteAt s 0)=false:=by decide
  obtain ⟨h1,h2,h3⟩:=hne s hs
  cases e:strEq (tk (m ++ [⟨0,⟨#[]⟩,n⟩]) i).text s with
  |false=>rfl
  |true=>
   have e:=strEq_eq.1 e
   rcases Nat.lt_or_ge i m.length with hm|hm
   ·obtain ⟨t,ht,et⟩:=at1 i hm
    rw [et] at e
    have hk':¬ (t.kind=4∨t.kind=3):=by
     unfold kOK at hk
     rw [et] at hk
     simpa using hk
    have:=((h t ht).word hk').2
    rw [e,h2,h3] at this
    simp at this
   ·rw [at2 i (by omega) hi] at e
    rw [←e] at h1
    exact absurd h1 (Nat.lt_irrefl 0)
theorem lexR_wf {s:ByteArray} {l:List Tk} (h:lexR s = .ok l):WfN l:=by
 unfold lexR at h
 split at h
 ·cases h
 ·rename_i hs
  obtain ⟨m,e,h1,h2⟩:=lexL_ok s 0 l h
  rw [e]
  exact wfn_of h1 (by omega)
theorem lexR_pos {s:ByteArray} {l:List Tk} (h:lexR s = .ok l):0 < l.length:=by
 unfold lexR at h
 split at h
 ·cases h
 ·obtain ⟨m,e,h1,h2⟩:=lexL_ok s 0 l h
  rw [e];simp
end Go.Proofs.Hk

set_option linter.unusedSimpArgs false
set_option linter.unusedVariables false
namespace Go.Proofs.Hk
open Go Go.Proofs
/-! Where errors are. -/
def ErrAt (l:List Tk) (i:Nat) {α:Type} (r:Res' α):Prop:=∀ c j d,r=some (.error (c,j,d))→j < l.length∧i≤j∧(c=4∨c=5)
theorem ErrAt.ok {l:List Tk} {i m:Nat} {α:Type} {x:α} : ErrAt l i (okR x m):=fun c j d h=>by cases h
theorem ErrAt.err {l:List Tk} {i j:Nat} {α:Type} {c d:Int} (hj:j < l.length) (hi:i≤j) (hc:c=4∨c=5):ErrAt l i (errR c j d:Res' α):=fun c' j' d' h=>by
 cases h;exact ⟨hj,hi,hc⟩
theorem ErrAt.none {l:List Tk} {i:Nat} {α:Type} : ErrAt l i (none:Res' α):=fun c j d h=>by cases h
theorem ErrAt.le {l:List Tk} {i i':Nat} {α:Type} {r:Res' α} (h:ErrAt l i' r) (hi:i≤i'):ErrAt l i r:=fun c j d e=>by
 have:=h c j d e
 exact ⟨this.1,by omega,this.2.2⟩
theorem ErrAt.bind {l:List Tk} {i:Nat} {α β:Type} {r:Res' α} {k:α→Nat→Res' β} (h:ErrAt l i r) (hk:∀ x j,r=some (.ok (x,j))→ErrAt l i (k x j)):ErrAt l i (bindR r k):=fun c j d e=>by
 cases r with
 |none=>cases e
 |some r=>
  cases r with
  |error x=>cases e;exact h _ _ _ rfl
  |ok x=>exact hk x.1 x.2 rfl c j d e
theorem pE_err {l:List Tk} (wf:WfT l):∀ (f:Nat) (lv:Lv) (d:Int) (i:Nat),i < l.length→ErrAt l i (pE l f lv d i):=by
 intro f
 induction f with
 |zero=>intro lv d i hi;exact .none
 |succ f ih=>
  have loop:∀ (L:Ex→Lv) (B:Lv) (d:Int) (i:Nat),i < l.length→ErrAt l i (bindR (pE l f B d i) fun e j=>pE l f (L e) d j):=fun L B d i hi=>
   (ih B d i hi).bind fun x j hx=>by
    have k:=pE_facts wf f B d i x j hi hx
    exact (ih (L x) d j k.1).le k.2.1
  have more:∀ (L:Ex→Lv) (B:Lv) (k:Int) (e0:Ex) (d:Int) (i:Nat),i < l.length→(tk l i).kind≠0→ErrAt l i (bindR (pE l f B d (i+1)) fun e2 j=>pE l f (L (.bin k e0 e2)) d j):=fun L B k e0 d i hi hk=>by
   have hi1:=wf.more i hi hk
   refine ((ih B d (i+1) hi1).le (by omega)).bind fun x j hx=>?_
   have k:=pE_facts wf f B d (i+1) x j hi1 hx
   exact (ih _ d j k.1).le (by omega)
  intro lv d i hi
  cases lv with
  |cond=>exact loop .condL .conj d i hi
  |conj=>exact loop .conjL .lit d i hi
  |expr=>exact loop .exprL .term d i hi
  |term=>exact loop .termL .unary d i hi
  |condL e0=>
   simp only [pE]
   split
   ·rename_i k hk;exact more .condL .conj k e0 d i hi (orK_isT hk)
   ·exact .ok
  |conjL e0=>
   simp only [pE]
   split
   ·rename_i k hk;exact more .conjL .lit k e0 d i hi (andK_isT hk)
   ·exact .ok
  |exprL e0=>
   simp only [pE]
   split
   ·rename_i k hk;exact more .exprL .term k e0 d i hi (addK_isT hk)
   ·exact .ok
  |termL e0=>
   simp only [pE]
   split
   ·rename_i k hk;exact more .termL .unary k e0 d i hi (mulK_isT hk)
   ·exact .ok
  |lit=>
   simp only [pE]
   split
   ·rename_i ht
    split
    ·exact .err hi (Nat.le_refl _) (.inr rfl)
    ·have hi1:=wf.more i hi (isT_kind ht)
     exact ((ih .lit _ (i+1) hi1).le (by omega)).bind fun x j hx=>.ok
   split
   ·rename_i ht
    split
    ·exact .err hi (Nat.le_refl _) (.inr rfl)
    ·have hi1:=wf.more i hi (isT_kind ht)
     refine ((ih .cond _ (i+1) hi1).le (by omega)).bind fun x j hx=>?_
     have k:=pE_facts wf f _ _ (i+1) x j hi1 hx
     split
     ·exact .ok
     ·exact .err k.1 (by omega) (.inl rfl)
   split
   ·exact .ok
   split
   ·exact .ok
   split
   ·exact .ok
   refine (ih .expr d i hi).bind fun x j hx=>?_
   have k1:=pE_facts wf f .expr d i x j hi hx
   split
   ·rename_i k hk
    exact ((ih .expr d (j+1) (wf.more j k1.1 (relK_isT hk))).le (by omega)).bind fun x j hx=>.ok
   ·exact .err k1.1 k1.2.1 (.inl rfl)
  |unary=>
   simp only [pE]
   split
   ·rename_i ht
    split
    ·exact .err hi (Nat.le_refl _) (.inr rfl)
    ·have hi1:=wf.more i hi (isT_kind ht)
     exact ((ih .unary _ (i+1) hi1).le (by omega)).bind fun x j hx=>.ok
   split
   ·rename_i ht
    split
    ·exact .err hi (Nat.le_refl _) (.inr rfl)
    ·have hi1:=wf.more i hi (isT_kind ht)
     refine ((ih .expr _ (i+1) hi1).le (by omega)).bind fun x j hx=>?_
     have k:=pE_facts wf f _ _ (i+1) x j hi1 hx
     split
     ·exact .ok
     ·exact .err k.1 (by omega) (.inl rfl)
   split
   ·exact .ok
   split
   ·exact .ok
   ·exact .err hi (Nat.le_refl _) (.inl rfl)
theorem pName_err {l:List Tk} {d:Int} {i:Nat} (hi:i < l.length):ErrAt l i (pName l d i):=by
 unfold pName;split
 ·exact .ok
 ·exact .err hi (Nat.le_refl _) (.inl rfl)
theorem pMust_err {l:List Tk} {s:ByteArray} {d:Int} {i:Nat} (hi:i < l.length):ErrAt l i (pMust l s d i):=by
 unfold pMust;split
 ·exact .ok
 ·exact .err hi (Nat.le_refl _) (.inl rfl)
theorem pArgs_err {l:List Tk} (wf:WfT l):∀ (f:Nat) (acc:List (List ND)) (d:Int) (i:Nat),i < l.length→ErrAt l i (pArgs l f acc d i):=by
 intro f
 induction f with
 |zero=>intro acc d i hi;exact .none
 |succ f ih=>
  intro acc d i hi
  unfold pArgs
  refine (pE_err wf f .expr d i hi).bind fun x j hx=>?_
  have k:=pE_facts wf f .expr d i x j hi hx
  split
  ·rename_i ht
   exact (ih _ d (j+1) (wf.more j k.1 (isT_kind ht))).le (by omega)
  split
  ·exact .ok
  ·exact .err k.1 k.2.1 (.inl rfl)
theorem pArgs0_err {l:List Tk} (wf:WfT l) {f:Nat} {d:Int} {i:Nat} (hi:i < l.length):ErrAt l i (pArgs0 l f d i):=by
 unfold pArgs0
 split
 ·exact .ok
 ·exact pArgs_err wf f _ d i hi
theorem pNames_err {l:List Tk} (wf:WfT l):∀ (f:Nat) (acc:List ByteArray) (d:Int) (i:Nat),i < l.length→ErrAt l i (pNames l f acc d i):=by
 intro f
 induction f with
 |zero=>intro acc d i hi;exact .none
 |succ f ih=>
  intro acc d i hi
  unfold pNames
  refine (pName_err hi).bind fun x j hx=>?_
  have k:=pName_facts wf hi hx
  split
  ·rename_i ht
   exact (ih _ d (j+1) (wf.more j k.1 (isT_kind ht))).le (by omega)
  split
  ·exact .ok
  ·exact .err k.1 (by omega) (.inl rfl)
theorem pNames0_err {l:List Tk} (wf:WfT l) {f:Nat} {d:Int} {i:Nat} (hi:i < l.length):ErrAt l i (pNames0 l f d i):=by
 unfold pNames0
 split
 ·exact .ok
 ·exact pNames_err wf f _ d i hi
theorem ended_err {l:List Tk} {d:Int} {r:Res' SD} {i:Nat} (h:ErrAt l i r) (hr:∀ x m,r=some (.ok (x,m))→m < l.length∧i≤m):ErrAt l i (ended l d r):=
 h.bind fun x j hx=>((pMust_err (hr x j hx).1).le (hr x j hx).2).bind fun _ m _=>.ok
theorem pCall_err {l:List Tk} (wf:WfT l) {f:Nat} {n p:ByteArray} {d:Int} {i:Nat} (hi:i < l.length):ErrAt l i (pCall l f n p d i):=by
 unfold pCall
 refine (pMust_err hi).bind fun x j hx=>?_
 have k:=pMust_facts wf hi hx
 exact ((pArgs0_err wf k.1).le (by omega)).bind fun y m hy=>.ok
theorem pNamed_err {l:List Tk} (wf:WfT l) {f:Nat} {n:ByteArray} {d:Int} {i:Nat} (hi:i < l.length):ErrAt l i (pNamed l f n d i):=by
 unfold pNamed
 split
 ·exact ended_err (pCall_err wf hi) fun x m h=>(by have:=pCall_facts wf hi h;omega)
 ·refine (pMust_err hi).bind fun x j hx=>?_
  have k:=pMust_facts wf hi hx
  split
  ·rename_i hc
   simp only [Bool.and_eq_true,beq_iff_eq] at hc
   have hj1:=wf.more j k.1 (by omega)
   exact ended_err ((pCall_err wf hj1).le (by omega)) fun x m h=>(by have:=pCall_facts wf hj1 h;omega)
  ·refine ended_err (((pE_err wf f .expr d j k.1).le (by omega)).bind fun e m _=>.ok) fun x m h=>?_
   obtain ⟨y,m2,h3,h4⟩:=bindR_ok h
   have:=pE_facts wf f _ d j y m2 k.1 h3
   cases h4
   omega
theorem pS_err {l:List Tk} (wf:WfT l):∀ (f:Nat) (lv:Ls) (d:Int) (i:Nat),i < l.length→ErrAt l i (pS l f lv d i):=by
 intro f
 induction f with
 |zero=>intro lv d i hi;exact .none
 |succ f ih=>
  intro lv d i hi
  have one:∀ {r:Res' SD},ErrAt l i r→ErrAt l i (bindR r fun s j=>okR [s] j):=fun h=>h.bind fun _ _ _=>.ok
  cases lv with
  |stmts acc=>
   simp only [pS]
   split
   ·exact .ok
   ·refine (ih .stmt d i hi).bind fun x j hx=>?_
    have k:=pS_facts wf f .stmt d i x j hi hx
    simp only [Ls.least] at k
    exact (ih _ d j k.1).le (by omega)
  |block=>
   simp only [pS]
   split
   ·rename_i ht
    split
    ·exact .err hi (Nat.le_refl _) (.inr rfl)
    ·have hi1:=wf.more i hi (isT_kind ht)
     refine ((ih (.stmts []) _ (i+1) hi1).le (by omega)).bind fun x j hx=>?_
     have k:=pS_facts wf f _ _ (i+1) x j hi1 hx
     simp only [Ls.least] at k
     split
     ·exact .ok
     ·exact .err k.1 (by omega) (.inl rfl)
   ·exact .err hi (Nat.le_refl _) (.inl rfl)
  |stmt=>
   simp only [pS]
   split
   ·rename_i hk
    exact one ((pNamed_err wf (wf.more i hi (by omega))).le (by omega))
   split
   ·rename_i hk
    have hi1:=wf.more i hi (isT_kind hk)
    refine one (ended_err (((pName_err hi1).le (by omega)).bind fun _ _ _=>.ok) fun x m h=>?_)
    obtain ⟨z,m2,h3,h4⟩:=bindR_ok h
    have:=pName_facts wf hi1 h3
    cases h4
    omega
   iterate 2
    split
    ·rename_i hk
     have hi1:=wf.more i hi (isT_kind hk)
     refine one (ended_err (((pE_err wf f _ d (i+1) hi1).le (by omega)).bind fun _ _ _=>.ok) fun x m h=>?_)
     obtain ⟨z,m2,h3,h4⟩:=bindR_ok h
     have:=pE_facts wf f _ d (i+1) z m2 hi1 h3
     cases h4
     omega
   split
   ·rename_i hk
    have hi1:=wf.more i hi (isT_kind hk)
    refine one (ended_err .ok fun x m h=>?_)
    cases h
    omega
   split
   ·rename_i hk
    have hi1:=wf.more i hi (isT_kind hk)
    refine ((pE_err wf f _ d (i+1) hi1).le (by omega)).bind fun z m2 h3=>?_
    have k1:=pE_facts wf f _ d (i+1) z m2 hi1 h3
    refine ((ih .block d m2 k1.1).le (by omega)).bind fun z2 m3 h5=>?_
    have k2:=pS_facts wf f .block d m2 z2 m3 k1.1 h5
    simp only [Ls.least] at k2
    split
    ·rename_i hm
     exact ((ih .block d (m3+1) (wf.more m3 k2.1 (isT_kind hm))).le (by omega)).bind fun _ _ _=>.ok
    ·exact .ok
   split
   ·rename_i hk
    have hi1:=wf.more i hi (isT_kind hk)
    refine ((pE_err wf f _ d (i+1) hi1).le (by omega)).bind fun z m2 h3=>?_
    have k1:=pE_facts wf f _ d (i+1) z m2 hi1 h3
    exact ((ih .block d m2 k1.1).le (by omega)).bind fun z2 m3 h5=>.ok
   split
   ·rename_i hk
    have hi1:=wf.more i hi (isT_kind hk)
    refine ((ih .block d (i+1) hi1).le (by omega)).bind fun z m2 h3=>?_
    have k1:=pS_facts wf f .block d (i+1) z m2 hi1 h3
    simp only [Ls.least] at k1
    refine ((pMust_err k1.1).le (by omega)).bind fun z2 m3 h5=>?_
    have k2:=pMust_facts wf k1.1 h5
    exact ((ih .block d m3 k2.1).le (by omega)).bind fun _ _ _=>.ok
   exact .err hi (Nat.le_refl _) (.inl rfl)
theorem pVars_err {l:List Tk} (wf:WfT l):∀ (f:Nat) (acc:List ByteArray) (d:Int) (i:Nat),i < l.length→ErrAt l i (pVars l f acc d i):=by
 intro f
 induction f with
 |zero=>intro acc d i hi;exact .none
 |succ f ih=>
  intro acc d i hi
  unfold pVars
  split
  ·rename_i ht
   have hi1:=wf.more i hi (isT_kind ht)
   refine ((pName_err hi1).le (by omega)).bind fun x j hx=>?_
   have k:=pName_facts wf hi1 hx
   refine ((pMust_err k.1).le (by omega)).bind fun y m hy=>?_
   have k2:=pMust_facts wf k.1 hy
   exact (ih _ d m k2.1).le (by omega)
  ·exact .ok
theorem pProc_err {l:List Tk} (wf:WfT l) {f i:Nat} (hi:i < l.length):ErrAt l i (pProc l f i):=by
 unfold pProc
 refine (pMust_err hi).bind fun x1 i1 h1=>?_
 have k1:=pMust_facts wf hi h1
 refine ((pName_err k1.1).le (by omega)).bind fun x2 i2 h2=>?_
 have k2:=pName_facts wf k1.1 h2
 refine ((pMust_err k2.1).le (by omega)).bind fun x3 i3 h3=>?_
 have k3:=pMust_facts wf k2.1 h3
 refine ((pNames0_err wf k3.1).le (by omega)).bind fun x4 i4 h4=>?_
 have k4:=pNames0_facts wf k3.1 h4
 have n5:ErrAt l i4 (if isT l i4 ⟨#[45,62]⟩=true then pName l 0 (i4+1) else okR noS i4):=by
  split
  ·rename_i ht
   exact (pName_err (wf.more i4 k4.1 (isT_kind ht))).le (by omega)
  ·exact .ok
 refine (n5.le (by omega)).bind fun x5 i5 h5=>?_
 have k5:i5 < l.length∧i4≤i5:=by
  split at h5
  ·rename_i ht
   have:=pName_facts wf (wf.more i4 k4.1 (isT_kind ht)) h5
   omega
  ·cases h5;exact ⟨k4.1,Nat.le_refl _⟩
 refine ((pMust_err k5.1).le (by omega)).bind fun x6 i6 h6=>?_
 have k6:=pMust_facts wf k5.1 h6
 refine ((pVars_err wf f _ 0 i6 k6.1).le (by omega)).bind fun x7 i7 h7=>?_
 have k7:=pVars_facts wf _ _ _ _ _ _ k6.1 h7
 refine ((pS_err wf f _ 0 i7 k7.1).le (by omega)).bind fun x8 i8 h8=>?_
 have k8:=pS_facts wf _ _ _ _ _ _ k7.1 h8
 simp only [Ls.least] at k8
 exact ((pMust_err k8.1).le (by omega)).bind fun _ _ _=>.ok
theorem pProg_err {l:List Tk} (wf:WfT l):∀ (f:Nat) (acc:List PD) (i:Nat),i < l.length→ErrAt l i (pProg l f acc i):=by
 intro f
 induction f with
 |zero=>intro acc i hi;exact .none
 |succ f ih=>
  intro acc i hi
  unfold pProg
  refine (pProc_err wf hi).bind fun p j hp=>?_
  have k:=pProc_facts wf hi hp
  split
  ·exact .ok
  ·exact (ih _ j k.1).le (by omega)
end Go.Proofs.Hk

import Derived.Test.YtcihapdaapkdjaaGreatDoorQ1
set_option linter.unusedSimpArgs false
set_option linter.unusedVariables false
namespace Go.Proofs.Hk
open Go Go.Proofs
theorem shN_shN (o p:Nat) (n:ND):shN o (shN p n)=shN (o+p:Nat) n:=by
 obtain ⟨k,m,s,a,b⟩:=n
 simp only [shN,ND.mk.injEq,true_and]
 constructor
 ·split
  ·rw [if_pos (by omega)];omega
  ·first|rfl|rw [if_neg (by assumption)]
 ·split
  ·rw [if_pos (by omega)];omega
  ·first|rfl|rw [if_neg (by assumption)]
theorem flat_pos (e:Ex) (o:Nat):1≤(e.flat o).length:=by
 cases e<;>simp [Ex.flat]<;>omega
theorem flat_sh (e:Ex):∀ o,e.flat o=(e.flat 0).map (shN o):=by
 induction e with
 |num n=>intro o;simp [Ex.flat,shN]
 |var s=>intro o;simp [Ex.flat,shN]
 |leaf k=>intro o;simp [Ex.flat,shN]
 |un k e ih=>
  intro o
  have p:=flat_pos e 0
  simp only [Ex.flat,List.map_append,List.map_cons,List.map_nil,Nat.zero_add]
  rw [ih o,List.length_map]
  congr 2
  simp only [shN,ND.mk.injEq,true_and]
  rw [if_pos (by omega),if_neg (by omega)]
  omega
 |bin k a b iha ihb=>
  intro o
  have p:=flat_pos a 0
  have q:=flat_pos b 0
  have lb:∀ o,(b.flat o).length=(b.flat 0).length:=fun o=>by rw [ihb o,List.length_map]
  simp only [Ex.flat,List.map_append,List.map_cons,List.map_nil,Nat.zero_add]
  rw [iha o,List.length_map,ihb (o+(a.flat 0).length),ihb ((a.flat 0).length),List.map_map]
  simp only [List.length_map]
  congr 2
  ·congr 1
   congr 1
   funext n
   simp only [Function.comp]
   rw [shN_shN]
  ·simp only [shN,ND.mk.injEq,true_and]
   rw [if_pos (by omega),if_pos (by omega)]
   omega
theorem both_flat (k:Int) (a b:Ex):(Ex.bin k a b).flat 0=bothL k (a.flat 0) (b.flat 0):=by
 have e:b.flat (a.flat 0).length=(b.flat 0).map (shN ((a.flat 0).length:Nat)):=flat_sh b _
 simp only [Ex.flat,bothL,Nat.zero_add,e,List.length_map,List.length_append]
theorem flat_lt (e:Ex):∀ n∈e.flat 0,n.a < (e.flat 0).length∧n.b < (e.flat 0).length:=by
 induction e with
 |num n=>intro m h;simp [Ex.flat] at h;subst h;simp [Ex.flat]
 |var s=>intro m h;simp [Ex.flat] at h;subst h;simp [Ex.flat]
 |leaf k=>intro m h;simp [Ex.flat] at h;subst h;simp [Ex.flat]
 |un k e ih=>
  intro m h
  simp only [Ex.flat,List.mem_append,List.mem_singleton,List.length_append,List.length_singleton,Nat.zero_add] at h ⊢
  rcases h with h|rfl
  ·have:=ih m h;omega
  ·simp only [];omega
 |bin k a b iha ihb=>
  intro m h
  rw [both_flat] at h ⊢
  simp only [bothL,List.mem_append,List.mem_map,List.mem_singleton,List.length_append,List.length_map,List.length_singleton] at h ⊢
  rcases h with (h|⟨n,h,rfl⟩)|rfl
  ·have:=iha m h;omega
  ·have:=ihb n h
   simp only [shN]
   constructor<;>split<;>omega
  ·simp only [];omega
/-- How many nodes there are already. -/
def Lv.base:Lv→Nat
 |.condL e=>(e.flat 0).length
 |.conjL e=>(e.flat 0).length
 |.exprL e=>(e.flat 0).length
 |.termL e=>(e.flat 0).length
 |_=>0
theorem bindR_ok {α β:Type} {r:Res' α} {k:α→Nat→Res' β} {y:β} {m:Nat} (h:bindR r k=some (.ok (y,m))):∃ x j,r=some (.ok (x,j))∧k x j=some (.ok (y,m)):=by
 unfold bindR at h
 split at h
 ·cases h
 ·cases h
 ·exact ⟨_,_,rfl,h⟩
theorem orK_isT {l:List Tk} {i:Nat} {k:Int} (h:orK l i=some k):(tk l i).kind≠0:=by
 unfold orK at h;split at h<;>first|(exact isT_kind (by assumption))|cases h
theorem andK_isT {l:List Tk} {i:Nat} {k:Int} (h:andK l i=some k):(tk l i).kind≠0:=by
 unfold andK at h;split at h<;>first|(exact isT_kind (by assumption))|cases h
theorem addK_isT {l:List Tk} {i:Nat} {k:Int} (h:addK l i=some k):(tk l i).kind≠0:=by
 unfold addK at h;repeat' split at h
 all_goals first|(exact isT_kind (by assumption))|cases h
theorem mulK_isT {l:List Tk} {i:Nat} {k:Int} (h:mulK l i=some k):(tk l i).kind≠0:=by
 unfold mulK at h;repeat' split at h
 all_goals first|(exact isT_kind (by assumption))|cases h
theorem relK_isT {l:List Tk} {i:Nat} {k:Int} (h:relK l i=some k):(tk l i).kind≠0:=by
 unfold relK at h;repeat' split at h
 all_goals first|(exact isT_kind (by assumption))|cases h
/-- Where it stops is a token; there are no more nodes than tokens. -/
theorem pE_facts {l:List Tk} (wf:WfT l):∀ (f:Nat) (lv:Lv) (d:Int) (i:Nat) (e:Ex) (j:Nat),i < l.length→pE l f lv d i=some (.ok (e,j))→j < l.length∧i≤j∧(e.flat 0).length≤lv.base+(j - i):=by
 intro f
 induction f with
 |zero=>intro lv d i e j hi h;simp [pE] at h
 |succ f ih=>
  have loop:∀ (L:Ex→Lv) (B:Lv) (d:Int) (i:Nat) (e:Ex) (j:Nat),i < l.length→(∀ e,(L e).base=(e.flat 0).length)→B.base=0→(bindR (pE l f B d i) fun e j=>pE l f (L e) d j)=some (.ok (e,j))→j < l.length∧i≤j∧(e.flat 0).length≤0+(j - i):=fun L B d i e j hi hL hB h=>by
   obtain ⟨x,m,h1,h2⟩:=bindR_ok h
   have k1:=ih B d i x m hi h1
   have k2:=ih (L x) d m e j k1.1 h2
   rw [hL] at k2
   rw [hB] at k1
   omega
  have more:∀ (L:Ex→Lv) (B:Lv) (k:Int) (e0:Ex) (d:Int) (i:Nat) (e:Ex) (j:Nat),i < l.length→(tk l i).kind≠0→(∀ e,(L e).base=(e.flat 0).length)→B.base=0→(bindR (pE l f B d (i+1)) fun e2 j=>pE l f (L (.bin k e0 e2)) d j)=some (.ok (e,j))→j < l.length∧i≤j∧(e.flat 0).length≤(e0.flat 0).length+(j - i):=fun L B k e0 d i e j hi hk hL hB h=>by
   obtain ⟨x,m,h1,h2⟩:=bindR_ok h
   have k1:=ih B d (i+1) x m (wf.more i hi hk) h1
   have k2:=ih (L (.bin k e0 x)) d m e j k1.1 h2
   rw [hL,both_flat] at k2
   rw [hB] at k1
   simp only [bothL,List.length_append,List.length_map,List.length_singleton] at k2
   omega
  intro lv d i e j hi h
  cases lv with
  |cond=>exact loop .condL .conj d i e j hi (fun _=>rfl) rfl h
  |conj=>exact loop .conjL .lit d i e j hi (fun _=>rfl) rfl h
  |expr=>exact loop .exprL .term d i e j hi (fun _=>rfl) rfl h
  |term=>exact loop .termL .unary d i e j hi (fun _=>rfl) rfl h
  |condL e0=>
   simp only [pE] at h
   split at h
   ·rename_i k hk;exact more .condL .conj k e0 d i e j hi (orK_isT hk) (fun _=>rfl) rfl h
   ·cases h;exact ⟨hi,Nat.le_refl _,by simp [Lv.base]⟩
  |conjL e0=>
   simp only [pE] at h
   split at h
   ·rename_i k hk;exact more .conjL .lit k e0 d i e j hi (andK_isT hk) (fun _=>rfl) rfl h
   ·cases h;exact ⟨hi,Nat.le_refl _,by simp [Lv.base]⟩
  |exprL e0=>
   simp only [pE] at h
   split at h
   ·rename_i k hk;exact more .exprL .term k e0 d i e j hi (addK_isT hk) (fun _=>rfl) rfl h
   ·cases h;exact ⟨hi,Nat.le_refl _,by simp [Lv.base]⟩
  |termL e0=>
   simp only [pE] at h
   split at h
   ·rename_i k hk;exact more .termL .unary k e0 d i e j hi (mulK_isT hk) (fun _=>rfl) rfl h
   ·cases h;exact ⟨hi,Nat.le_refl _,by simp [Lv.base]⟩
  |lit=>
   simp only [pE] at h
   split at h
   ·rename_i ht
    split at h
    ·cases h
    ·obtain ⟨x,m,h1,h2⟩:=bindR_ok h
     have k1:=ih .lit (d+1) (i+1) x m (wf.more i hi (isT_kind ht)) h1
     cases h2
     simp only [Ex.flat,List.length_append,List.length_singleton,Lv.base] at k1 ⊢
     omega
   split at h
   ·rename_i ht
    split at h
    ·cases h
    ·obtain ⟨x,m,h1,h2⟩:=bindR_ok h
     have k1:=ih .cond (d+1) (i+1) x m (wf.more i hi (isT_kind ht)) h1
     split at h2
     ·rename_i hm
      cases h2
      have:=wf.more m k1.1 (isT_kind hm)
      simp only [Lv.base] at k1 ⊢
      omega
     ·cases h2
   iterate 3
    split at h
    ·rename_i ht
     cases h
     have:=wf.more i hi (isT_kind ht)
     simp only [Ex.flat,List.length_singleton,Lv.base]
     omega
   obtain ⟨x,m,h1,h2⟩:=bindR_ok h
   have k1:=ih .expr d i x m hi h1
   split at h2
   ·rename_i k hk
    obtain ⟨y,m2,h3,h4⟩:=bindR_ok h2
    have k2:=ih .expr d (m+1) y m2 (wf.more m k1.1 (relK_isT hk)) h3
    cases h4
    rw [both_flat]
    simp only [bothL,List.length_append,List.length_map,List.length_singleton,Lv.base] at k1 k2 ⊢
    omega
   ·cases h2
  |unary=>
   simp only [pE] at h
   split at h
   ·rename_i ht
    split at h
    ·cases h
    ·obtain ⟨x,m,h1,h2⟩:=bindR_ok h
     have k1:=ih .unary (d+1) (i+1) x m (wf.more i hi (isT_kind ht)) h1
     cases h2
     simp only [Ex.flat,List.length_append,List.length_singleton,Lv.base] at k1 ⊢
     omega
   split at h
   ·rename_i ht
    split at h
    ·cases h
    ·obtain ⟨x,m,h1,h2⟩:=bindR_ok h
     have k1:=ih .expr (d+1) (i+1) x m (wf.more i hi (isT_kind ht)) h1
     split at h2
     ·rename_i hm
      cases h2
      have:=wf.more m k1.1 (isT_kind hm)
      simp only [Lv.base] at k1 ⊢
      omega
     ·cases h2
   split at h
   ·rename_i ht
    cases h
    have:=wf.more i hi (by omega)
    simp only [Ex.flat,List.length_singleton,Lv.base]
    omega
   split at h
   ·rename_i ht
    cases h
    have:=wf.more i hi (by omega)
    simp only [Ex.flat,List.length_singleton,Lv.base]
    omega
   cases h
end Go.Proofs.Hk

set_option linter.unusedSimpArgs false
set_option linter.unusedVariables false
namespace Go.Proofs.Hk
open Go Go.Proofs
theorem pMust_ok {l:List Tk} {s:ByteArray} {d:Int} {i j:Nat} {x:Unit} (h:pMust l s d i=some (.ok (x,j))):isT l i s=true∧j=i+1:=by
 unfold pMust at h
 split at h
 ·rename_i k;cases h;exact ⟨k,rfl⟩
 ·cases h
theorem pName_ok {l:List Tk} {d:Int} {i j:Nat} {x:ByteArray} (h:pName l d i=some (.ok (x,j))):(tk l i).kind=1∧x=(tk l i).text∧j=i+1:=by
 unfold pName at h
 split at h
 ·rename_i k;cases h;exact ⟨k,rfl,rfl⟩
 ·cases h
theorem pArgs_facts {l:List Tk} (wf:WfT l):∀ (f:Nat) (acc:List (List ND)) (d:Int) (i:Nat) (a:List (List ND)) (j:Nat),i < l.length→pArgs l f acc d i=some (.ok (a,j))→j < l.length∧i+1≤j:=by
 intro f
 induction f with
 |zero=>intro acc d i a j hi h;cases h
 |succ f ih=>
  intro acc d i a j hi h
  unfold pArgs at h
  obtain ⟨x,m,h1,h2⟩:=bindR_ok h
  have k1:=pE_facts wf f _ d i x m hi h1
  split at h2
  ·rename_i ht
   have:=ih _ d _ a j (wf.more m k1.1 (isT_kind ht)) h2
   omega
  split at h2
  ·rename_i ht
   cases h2
   have:=wf.more m k1.1 (isT_kind ht)
   omega
  ·cases h2
theorem pArgs0_facts {l:List Tk} (wf:WfT l) {f:Nat} {d:Int} {i:Nat} {a:List (List ND)} {j:Nat} (hi:i < l.length) (h:pArgs0 l f d i=some (.ok (a,j))):j < l.length∧i+1≤j:=by
 unfold pArgs0 at h
 split at h
 ·rename_i ht
  cases h
  have:=wf.more i hi (isT_kind ht)
  omega
 ·exact pArgs_facts wf f _ d i a j hi h
theorem pNames_facts {l:List Tk} (wf:WfT l):∀ (f:Nat) (acc:List ByteArray) (d:Int) (i:Nat) (a:List ByteArray) (j:Nat),i < l.length→pNames l f acc d i=some (.ok (a,j))→j < l.length∧i+1≤j:=by
 intro f
 induction f with
 |zero=>intro acc d i a j hi h;cases h
 |succ f ih=>
  intro acc d i a j hi h
  unfold pNames at h
  obtain ⟨x,m,h1,h2⟩:=bindR_ok h
  have k1:=pName_ok h1
  have hm:m < l.length:=by rw [k1.2.2];exact wf.more i hi (by omega)
  split at h2
  ·rename_i ht
   have:=ih _ d _ a j (wf.more m hm (isT_kind ht)) h2
   omega
  split at h2
  ·rename_i ht
   cases h2
   have:=wf.more m hm (isT_kind ht)
   omega
  ·cases h2
theorem pNames0_facts {l:List Tk} (wf:WfT l) {f:Nat} {d:Int} {i:Nat} {a:List ByteArray} {j:Nat} (hi:i < l.length) (h:pNames0 l f d i=some (.ok (a,j))):j < l.length∧i+1≤j:=by
 unfold pNames0 at h
 split at h
 ·rename_i ht
  cases h
  have:=wf.more i hi (isT_kind ht)
  omega
 ·exact pNames_facts wf f _ d i a j hi h
theorem pMust_facts {l:List Tk} (wf:WfT l) {s:ByteArray} {d:Int} {i j:Nat} {x:Unit} (hi:i < l.length) (h:pMust l s d i=some (.ok (x,j))):j < l.length∧i+1≤j:=by
 obtain ⟨k,rfl⟩:=pMust_ok h
 exact ⟨wf.more i hi (isT_kind k),Nat.le_refl _⟩
theorem pName_facts {l:List Tk} (wf:WfT l) {d:Int} {i j:Nat} {x:ByteArray} (hi:i < l.length) (h:pName l d i=some (.ok (x,j))):j < l.length∧i+1≤j:=by
 obtain ⟨k,_,rfl⟩:=pName_ok h
 exact ⟨wf.more i hi (by omega),Nat.le_refl _⟩
theorem pCall_facts {l:List Tk} (wf:WfT l) {f:Nat} {n p:ByteArray} {d:Int} {i:Nat} {a:SD} {j:Nat} (hi:i < l.length) (h:pCall l f n p d i=some (.ok (a,j))):j < l.length∧i+1≤j:=by
 unfold pCall at h
 obtain ⟨x,m,h1,h2⟩:=bindR_ok h
 have k1:=pMust_facts wf hi h1
 obtain ⟨y,m2,h3,h4⟩:=bindR_ok h2
 have k2:=pArgs0_facts wf k1.1 h3
 cases h4
 omega
theorem ended_facts {l:List Tk} (wf:WfT l) {d:Int} {r:Res' SD} {i:Nat} {a:SD} {j:Nat} (hr:∀ x m,r=some (.ok (x,m))→m < l.length∧i+1≤m) (h:ended l d r=some (.ok (a,j))):j < l.length∧i+1≤j:=by
 unfold ended at h
 obtain ⟨x,m,h1,h2⟩:=bindR_ok h
 have k1:=hr x m h1
 obtain ⟨y,m2,h3,h4⟩:=bindR_ok h2
 have k2:=pMust_facts wf k1.1 h3
 cases h4
 omega
theorem pNamed_facts {l:List Tk} (wf:WfT l) {f:Nat} {n:ByteArray} {d:Int} {i:Nat} {a:SD} {j:Nat} (hi:i < l.length) (h:pNamed l f n d i=some (.ok (a,j))):j < l.length∧i+1≤j:=by
 unfold pNamed at h
 split at h
 ·exact ended_facts wf (fun x m h=>pCall_facts wf hi h) h
 ·obtain ⟨x,m,h1,h2⟩:=bindR_ok h
  have k1:=pMust_facts wf hi h1
  split at h2
  ·rename_i hc
   simp only [Bool.and_eq_true,beq_iff_eq] at hc
   refine ended_facts wf (fun x m' h=>?_) h2
   have:=pCall_facts wf (wf.more m k1.1 (by omega)) h
   omega
  ·refine ended_facts wf (fun x m' h=>?_) h2
   obtain ⟨y,m2,h3,h4⟩:=bindR_ok h
   have:=pE_facts wf f _ d m y m2 k1.1 h3
   cases h4
   omega
def Ls.base:Ls→Nat
 |.stmts acc=>acc.length
 |_=>0
def Ls.least:Ls→Nat
 |.stmts _=>0
 |_=>1
/-- Where it stops is a token; there are no more statements than tokens. -/
theorem pS_facts {l:List Tk} (wf:WfT l):∀ (f:Nat) (lv:Ls) (d:Int) (i:Nat) (b:List SD) (j:Nat),i < l.length→pS l f lv d i=some (.ok (b,j))→j < l.length∧i+lv.least≤j∧(lv≠.block→b.length≤lv.base+(j - i)):=by
 intro f
 induction f with
 |zero=>intro lv d i b j hi h;cases h
 |succ f ih=>
  have one:∀ {r:Res' SD} {i:Nat} {b:List SD} {j:Nat},(∀ x m,r=some (.ok (x,m))→m < l.length∧i+1≤m)→(bindR r fun s j=>okR [s] j)=some (.ok (b,j))→j < l.length∧i+1≤j∧(Ls.stmt≠.block→b.length≤0+(j - i)):=fun {r i b j} hr h=>by
   obtain ⟨x,m,h1,h2⟩:=bindR_ok h
   have:=hr x m h1
   cases h2
   simp only [List.length_singleton]
   omega
  intro lv d i b j hi h
  cases lv with
  |stmts acc=>
   simp only [pS] at h
   split at h
   ·cases h;simp only [Ls.least,Ls.base];exact ⟨hi,by omega,fun _=>by omega⟩
   ·obtain ⟨s,m,h1,h2⟩:=bindR_ok h
    have k1:=ih .stmt d i s m hi h1
    have k2:=ih (.stmts (acc ++ s)) d m b j k1.1 h2
    simp only [Ls.least,Ls.base,List.length_append] at *
    have k11:=k1.2.2 (by simp)
    have k22:=k2.2.2 (by simp)
    exact ⟨k2.1,by omega,fun _=>by omega⟩
  |block=>
   simp only [pS] at h
   split at h
   ·rename_i ht
    split at h
    ·cases h
    ·obtain ⟨s,m,h1,h2⟩:=bindR_ok h
     have k1:=ih (.stmts []) (d+1) (i+1) s m (wf.more i hi (isT_kind ht)) h1
     split at h2
     ·rename_i hm
      cases h2
      have:=wf.more m k1.1 (isT_kind hm)
      simp only [Ls.least] at *
      exact ⟨by omega,by omega,fun h=>absurd rfl h⟩
     ·cases h2
   ·cases h
  |stmt=>
   simp only [pS] at h
   split at h
   ·rename_i hk
    exact one (fun x m h=>(by have:=pNamed_facts wf (wf.more i hi (by omega)) h;omega)) h
   split at h
   ·rename_i hk
    have hi1:=wf.more i hi (isT_kind hk)
    refine one (fun x m h=>ended_facts wf (fun y m' h=>?_) h) h
    obtain ⟨z,m2,h3,h4⟩:=bindR_ok h
    have:=pName_facts wf hi1 h3
    cases h4
    omega
   iterate 2
    split at h
    ·rename_i hk
     have hi1:=wf.more i hi (isT_kind hk)
     refine one (fun x m h=>ended_facts wf (fun y m' h=>?_) h) h
     obtain ⟨z,m2,h3,h4⟩:=bindR_ok h
     have:=pE_facts wf f _ d (i+1) z m2 hi1 h3
     cases h4
     omega
   split at h
   ·rename_i hk
    have hi1:=wf.more i hi (isT_kind hk)
    refine one (fun x m h=>ended_facts wf (fun y m' h=>?_) h) h
    cases h
    omega
   split at h
   ·rename_i hk
    have hi1:=wf.more i hi (isT_kind hk)
    obtain ⟨z,m2,h3,h4⟩:=bindR_ok h
    have k1:=pE_facts wf f _ d (i+1) z m2 hi1 h3
    obtain ⟨z2,m3,h5,h6⟩:=bindR_ok h4
    have k2:=ih .block d m2 z2 m3 k1.1 h5
    simp only [Ls.least,Ls.base] at *
    split at h6
    ·rename_i hm
     obtain ⟨z3,m4,h7,h8⟩:=bindR_ok h6
     have k3:=ih .block d (m3+1) z3 m4 (wf.more m3 k2.1 (isT_kind hm)) h7
     cases h8
     simp only [List.length_singleton,Ls.least] at *
     exact ⟨k3.1,by omega,fun _=>by omega⟩
    ·cases h6
     simp only [List.length_singleton]
     exact ⟨k2.1,by omega,fun _=>by omega⟩
   split at h
   ·rename_i hk
    have hi1:=wf.more i hi (isT_kind hk)
    obtain ⟨z,m2,h3,h4⟩:=bindR_ok h
    have k1:=pE_facts wf f _ d (i+1) z m2 hi1 h3
    obtain ⟨z2,m3,h5,h6⟩:=bindR_ok h4
    have k2:=ih .block d m2 z2 m3 k1.1 h5
    cases h6
    simp only [List.length_singleton,Ls.least,Ls.base] at *
    exact ⟨k2.1,by omega,fun _=>by omega⟩
   split at h
   ·rename_i hk
    have hi1:=wf.more i hi (isT_kind hk)
    obtain ⟨z,m2,h3,h4⟩:=bindR_ok h
    have k1:=ih .block d (i+1) z m2 hi1 h3
    obtain ⟨z2,m3,h5,h6⟩:=bindR_ok h4
    have k2:=pMust_facts wf k1.1 h5
    obtain ⟨z3,m4,h7,h8⟩:=bindR_ok h6
    have k3:=ih .block d m3 z3 m4 k2.1 h7
    cases h8
    simp only [List.length_singleton,Ls.least,Ls.base] at *
    exact ⟨k3.1,by omega,fun _=>by omega⟩
   cases h
theorem pVars_facts {l:List Tk} (wf:WfT l):∀ (f:Nat) (acc:List ByteArray) (d:Int) (i:Nat) (a:List ByteArray) (j:Nat),i < l.length→pVars l f acc d i=some (.ok (a,j))→j < l.length∧i≤j:=by
 intro f
 induction f with
 |zero=>intro acc d i a j hi h;cases h
 |succ f ih=>
  intro acc d i a j hi h
  unfold pVars at h
  split at h
  ·rename_i ht
   have hi1:=wf.more i hi (isT_kind ht)
   obtain ⟨x,m,h1,h2⟩:=bindR_ok h
   have k1:=pName_facts wf hi1 h1
   obtain ⟨y,m2,h3,h4⟩:=bindR_ok h2
   have k2:=pMust_facts wf k1.1 h3
   have:=ih _ d _ a j k2.1 h4
   omega
  ·cases h;exact ⟨hi,Nat.le_refl _⟩
theorem pProc_facts {l:List Tk} (wf:WfT l) {f i:Nat} {p:PD} {j:Nat} (hi:i < l.length) (h:pProc l f i=some (.ok (p,j))):j < l.length∧i+1≤j:=by
 unfold pProc at h
 obtain ⟨x1,i1,h1,h⟩:=bindR_ok h
 have k1:=pMust_facts wf hi h1
 obtain ⟨x2,i2,h2,h⟩:=bindR_ok h
 have k2:=pName_facts wf k1.1 h2
 obtain ⟨x3,i3,h3,h⟩:=bindR_ok h
 have k3:=pMust_facts wf k2.1 h3
 obtain ⟨x4,i4,h4,h⟩:=bindR_ok h
 have k4:=pNames0_facts wf k3.1 h4
 obtain ⟨x5,i5,h5,h⟩:=bindR_ok h
 have k5:i5 < l.length∧i4≤i5:=by
  split at h5
  ·rename_i ht
   have:=pName_facts wf (wf.more i4 k4.1 (isT_kind ht)) h5
   omega
  ·cases h5;exact ⟨k4.1,Nat.le_refl _⟩
 obtain ⟨x6,i6,h6,h⟩:=bindR_ok h
 have k6:=pMust_facts wf k5.1 h6
 obtain ⟨x7,i7,h7,h⟩:=bindR_ok h
 have k7:=pVars_facts wf _ _ _ _ _ _ k6.1 h7
 obtain ⟨x8,i8,h8,h⟩:=bindR_ok h
 have k8:=pS_facts wf _ _ _ _ _ _ k7.1 h8
 obtain ⟨x9,i9,h9,h⟩:=bindR_ok h
 have k9:=pMust_facts wf k8.1 h9
 cases h
 simp only [Ls.least] at *
 omega
end Go.Proofs.Hk

set_option linter.unusedSimpArgs false
set_option linter.unusedVariables false
namespace Go.Proofs.Hk
open Go Go.Proofs
/-! There is fuel enough. -/
theorem bindR_ne {α β:Type} {r:Res' α} {k:α→Nat→Res' β} (h:r≠none) (hk:∀ x j,r=some (.ok (x,j))→k x j≠none):bindR r k≠none:=by
 unfold bindR
 cases r with
 |none=>exact absurd rfl h
 |some r=>cases r with
  |error e=>intro e;cases e
  |ok x=>exact hk x.1 x.2 rfl
def Lv.rank:Lv→Nat
 |.cond=>6
 |.conj=>5
 |.lit=>4
 |.expr=>3
 |.term=>2
 |_=>1
theorem okR_ne {α:Type} {x:α} {i:Nat} : (okR x i:Res' α)≠none:=by intro e;cases e
theorem errR_ne {α:Type} {c d:Int} {i:Nat} : (errR c i d:Res' α)≠none:=by intro e;cases e
theorem pE_some {l:List Tk} (wf:WfT l):∀ (f:Nat) (lv:Lv) (d:Int) (i:Nat),i < l.length→8 * (l.length - i)+lv.rank≤f→pE l f lv d i≠none:=by
 intro f
 induction f with
 |zero=>intro lv d i hi h;cases lv<;>simp [Lv.rank] at h
 |succ f ih=>
  have loop:∀ (L:Ex→Lv) (B:Lv) (d:Int) (i:Nat),i < l.length→(∀ e,(L e).rank=1)→8 * (l.length - i)+B.rank≤f→1≤B.rank→(bindR (pE l f B d i) fun e j=>pE l f (L e) d j)≠none:=fun L B d i hi hL hf hB=>
   bindR_ne (ih B d i hi hf) fun x j hx=>by
    have k:=pE_facts wf f B d i x j hi hx
    exact ih (L x) d j k.1 (by rw [hL];omega)
  have more:∀ (L:Ex→Lv) (B:Lv) (k:Int) (e0:Ex) (d:Int) (i:Nat),i < l.length→(tk l i).kind≠0→(∀ e,(L e).rank=1)→B.rank≤6→8 * (l.length - i)≤f→(bindR (pE l f B d (i+1)) fun e2 j=>pE l f (L (.bin k e0 e2)) d j)≠none:=fun L B k e0 d i hi hk hL hB hf=>by
   have hi1:=wf.more i hi hk
   refine bindR_ne (ih B d (i+1) hi1 (by omega)) fun x j hx=>?_
   have k:=pE_facts wf f B d (i+1) x j hi1 hx
   exact ih _ d j k.1 (by rw [hL];omega)
  intro lv d i hi h
  cases lv with
  |cond=>exact loop .condL .conj d i hi (fun _=>rfl) (by simp only [Lv.rank] at *;omega) (by simp [Lv.rank])
  |conj=>exact loop .conjL .lit d i hi (fun _=>rfl) (by simp only [Lv.rank] at *;omega) (by simp [Lv.rank])
  |expr=>exact loop .exprL .term d i hi (fun _=>rfl) (by simp only [Lv.rank] at *;omega) (by simp [Lv.rank])
  |term=>exact loop .termL .unary d i hi (fun _=>rfl) (by simp only [Lv.rank] at *;omega) (by simp [Lv.rank])
  |condL e0=>
   simp only [Lv.rank] at h
   simp only [pE]
   split
   ·rename_i k hk;exact more .condL .conj k e0 d i hi (orK_isT hk) (fun _=>rfl) (by simp [Lv.rank]) (by omega)
   ·exact okR_ne
  |conjL e0=>
   simp only [Lv.rank] at h
   simp only [pE]
   split
   ·rename_i k hk;exact more .conjL .lit k e0 d i hi (andK_isT hk) (fun _=>rfl) (by simp [Lv.rank]) (by omega)
   ·exact okR_ne
  |exprL e0=>
   simp only [Lv.rank] at h
   simp only [pE]
   split
   ·rename_i k hk;exact more .exprL .term k e0 d i hi (addK_isT hk) (fun _=>rfl) (by simp [Lv.rank]) (by omega)
   ·exact okR_ne
  |termL e0=>
   simp only [Lv.rank] at h
   simp only [pE]
   split
   ·rename_i k hk;exact more .termL .unary k e0 d i hi (mulK_isT hk) (fun _=>rfl) (by simp [Lv.rank]) (by omega)
   ·exact okR_ne
  |lit=>
   simp only [Lv.rank] at h
   simp only [pE]
   split
   ·rename_i ht
    split
    ·exact errR_ne
    ·have hi1:=wf.more i hi (isT_kind ht)
     exact bindR_ne (ih .lit _ (i+1) hi1 (by simp only [Lv.rank];omega)) fun x j hx=>okR_ne
   split
   ·rename_i ht
    split
    ·exact errR_ne
    ·have hi1:=wf.more i hi (isT_kind ht)
     refine bindR_ne (ih .cond _ (i+1) hi1 (by simp only [Lv.rank];omega)) fun x j hx=>?_
     split
     ·exact okR_ne
     ·exact errR_ne
   split
   ·exact okR_ne
   split
   ·exact okR_ne
   split
   ·exact okR_ne
   refine bindR_ne (ih .expr d i hi (by simp only [Lv.rank];omega)) fun x j hx=>?_
   have k1:=pE_facts wf f .expr d i x j hi hx
   split
   ·rename_i k hk
    exact bindR_ne (ih .expr d (j+1) (wf.more j k1.1 (relK_isT hk)) (by simp only [Lv.rank];omega)) fun x j hx=>okR_ne
   ·exact errR_ne
  |unary=>
   simp only [Lv.rank] at h
   simp only [pE]
   split
   ·rename_i ht
    split
    ·exact errR_ne
    ·have hi1:=wf.more i hi (isT_kind ht)
     exact bindR_ne (ih .unary _ (i+1) hi1 (by simp only [Lv.rank];omega)) fun x j hx=>okR_ne
   split
   ·rename_i ht
    split
    ·exact errR_ne
    ·have hi1:=wf.more i hi (isT_kind ht)
     refine bindR_ne (ih .expr _ (i+1) hi1 (by simp only [Lv.rank];omega)) fun x j hx=>?_
     split
     ·exact okR_ne
     ·exact errR_ne
   split
   ·exact okR_ne
   split
   ·exact okR_ne
   ·exact errR_ne
theorem pName_ne {l:List Tk} {d:Int} {i:Nat} : pName l d i≠none:=by
 unfold pName;split
 ·exact okR_ne
 ·exact errR_ne
theorem pMust_ne {l:List Tk} {s:ByteArray} {d:Int} {i:Nat} : pMust l s d i≠none:=by
 unfold pMust;split
 ·exact okR_ne
 ·exact errR_ne
theorem pArgs_some {l:List Tk} (wf:WfT l):∀ (f:Nat) (acc:List (List ND)) (d:Int) (i:Nat),i < l.length→8 * (l.length - i)+4≤f→pArgs l f acc d i≠none:=by
 intro f
 induction f with
 |zero=>intro acc d i hi h;omega
 |succ f ih=>
  intro acc d i hi h
  unfold pArgs
  refine bindR_ne (pE_some wf f .expr d i hi (by simp only [Lv.rank];omega)) fun x j hx=>?_
  have k:=pE_facts wf f .expr d i x j hi hx
  split
  ·rename_i ht
   exact ih _ d (j+1) (wf.more j k.1 (isT_kind ht)) (by omega)
  split
  ·exact okR_ne
  ·exact errR_ne
theorem pNames_some {l:List Tk} (wf:WfT l):∀ (f:Nat) (acc:List ByteArray) (d:Int) (i:Nat),i < l.length→l.length - i+1≤f→pNames l f acc d i≠none:=by
 intro f
 induction f with
 |zero=>intro acc d i hi h;omega
 |succ f ih=>
  intro acc d i hi h
  unfold pNames
  refine bindR_ne pName_ne fun x j hx=>?_
  have k:=pName_facts wf hi hx
  split
  ·rename_i ht
   exact ih _ d (j+1) (wf.more j k.1 (isT_kind ht)) (by omega)
  split
  ·exact okR_ne
  ·exact errR_ne
theorem ended_ne {l:List Tk} {d:Int} {r:Res' SD} (h:r≠none):ended l d r≠none:=bindR_ne h fun x j _=>bindR_ne pMust_ne fun _ m _=>okR_ne
theorem pCall_some {l:List Tk} (wf:WfT l) {f:Nat} {n p:ByteArray} {d:Int} {i:Nat} (hi:i < l.length) (h:8 * (l.length - i)+4≤f):pCall l f n p d i≠none:=by
 unfold pCall
 refine bindR_ne pMust_ne fun x j hx=>?_
 have k:=pMust_facts wf hi hx
 refine bindR_ne ?_ fun y m hy=>okR_ne
 unfold pArgs0
 split
 ·exact okR_ne
 ·exact pArgs_some wf f _ d j k.1 (by omega)
theorem pNamed_some {l:List Tk} (wf:WfT l) {f:Nat} {n:ByteArray} {d:Int} {i:Nat} (hi:i < l.length) (h:8 * (l.length - i)+4≤f):pNamed l f n d i≠none:=by
 unfold pNamed
 split
 ·exact ended_ne (pCall_some wf hi h)
 ·refine bindR_ne pMust_ne fun x j hx=>?_
  have k:=pMust_facts wf hi hx
  split
  ·rename_i hc
   simp only [Bool.and_eq_true,beq_iff_eq] at hc
   exact ended_ne (pCall_some wf (wf.more j k.1 (by omega)) (by omega))
  ·exact ended_ne (bindR_ne (pE_some wf f .expr d j k.1 (by simp only [Lv.rank];omega)) fun e m _=>okR_ne)
def Ls.rank:Ls→Nat
 |.stmts _=>3
 |.stmt=>2
 |.block=>1
theorem pS_some {l:List Tk} (wf:WfT l):∀ (f:Nat) (lv:Ls) (d:Int) (i:Nat),i < l.length→16 * (l.length - i)+lv.rank≤f→pS l f lv d i≠none:=by
 intro f
 induction f with
 |zero=>intro lv d i hi h;cases lv<;>simp [Ls.rank] at h
 |succ f ih=>
  intro lv d i hi h
  have C:∀ j,j < l.length→i≤j→pE l f .cond d j≠none:=fun j hj hij=>pE_some wf f .cond d j hj (by cases lv<;>simp only [Lv.rank,Ls.rank] at *<;>omega)
  have one:∀ {r:Res' SD},r≠none→(bindR r fun s j=>okR [s] j)≠none:=fun h=>bindR_ne h fun _ _ _=>okR_ne
  cases lv with
  |stmts acc=>
   simp only [Ls.rank] at h
   simp only [pS]
   split
   ·exact okR_ne
   ·refine bindR_ne (ih .stmt d i hi (by simp only [Ls.rank];omega)) fun x j hx=>?_
    have k:=pS_facts wf f .stmt d i x j hi hx
    simp only [Ls.least] at k
    exact ih _ d j k.1 (by simp only [Ls.rank];omega)
  |block=>
   simp only [Ls.rank] at h
   simp only [pS]
   split
   ·rename_i ht
    split
    ·exact errR_ne
    ·refine bindR_ne (ih (.stmts []) _ (i+1) (wf.more i hi (isT_kind ht)) (by simp only [Ls.rank];omega)) fun x j hx=>?_
     split
     ·exact okR_ne
     ·exact errR_ne
   ·exact errR_ne
  |stmt=>
   simp only [Ls.rank] at h
   simp only [pS]
   have blk:∀ j,j < l.length→i+1≤j→pS l f .block d j≠none:=fun j hj hij=>ih .block d j hj (by simp only [Ls.rank];omega)
   split
   ·rename_i hk
    exact one (pNamed_some wf (wf.more i hi (by omega)) (by omega))
   split
   ·exact one (ended_ne (bindR_ne pName_ne fun _ _ _=>okR_ne))
   split
   ·rename_i ht
    exact one (ended_ne (bindR_ne (C (i+1) (wf.more i hi (isT_kind ht)) (by omega)) fun _ _ _=>okR_ne))
   split
   ·rename_i ht
    exact one (ended_ne (bindR_ne (C (i+1) (wf.more i hi (isT_kind ht)) (by omega)) fun _ _ _=>okR_ne))
   split
   ·exact one (ended_ne okR_ne)
   split
   ·rename_i ht
    have hi1:=wf.more i hi (isT_kind ht)
    refine bindR_ne (C (i+1) hi1 (by omega)) fun x j hx=>?_
    have k:=pE_facts wf f .cond d (i+1) x j hi1 hx
    refine bindR_ne (blk j k.1 (by omega)) fun b m hb=>?_
    have k2:=pS_facts wf f .block d j b m k.1 hb
    simp only [Ls.least] at k2
    split
    ·rename_i hm
     exact bindR_ne (blk (m+1) (wf.more m k2.1 (isT_kind hm)) (by omega)) fun _ _ _=>okR_ne
    ·exact okR_ne
   split
   ·rename_i ht
    have hi1:=wf.more i hi (isT_kind ht)
    refine bindR_ne (C (i+1) hi1 (by omega)) fun x j hx=>?_
    have k:=pE_facts wf f .cond d (i+1) x j hi1 hx
    exact bindR_ne (blk j k.1 (by omega)) fun b m hb=>okR_ne
   split
   ·rename_i ht
    have hi1:=wf.more i hi (isT_kind ht)
    refine bindR_ne (blk (i+1) hi1 (by omega)) fun b j hb=>?_
    have k2:=pS_facts wf f .block d (i+1) b j hi1 hb
    simp only [Ls.least] at k2
    refine bindR_ne pMust_ne fun x m hx=>?_
    have k3:=pMust_facts wf k2.1 hx
    exact bindR_ne (blk m k3.1 (by omega)) fun _ _ _=>okR_ne
   exact errR_ne
theorem pVars_some {l:List Tk} (wf:WfT l):∀ (f:Nat) (acc:List ByteArray) (d:Int) (i:Nat),i < l.length→l.length - i+1≤f→pVars l f acc d i≠none:=by
 intro f
 induction f with
 |zero=>intro acc d i hi h;omega
 |succ f ih=>
  intro acc d i hi h
  unfold pVars
  split
  ·rename_i ht
   have hi1:=wf.more i hi (isT_kind ht)
   refine bindR_ne pName_ne fun x j hx=>?_
   have k:=pName_facts wf hi1 hx
   refine bindR_ne pMust_ne fun y m hy=>?_
   have k2:=pMust_facts wf k.1 hy
   exact ih _ d m k2.1 (by omega)
  ·exact okR_ne
theorem pProc_some {l:List Tk} (wf:WfT l) {f i:Nat} (hi:i < l.length) (h:16 * (l.length - i)+3≤f):pProc l f i≠none:=by
 unfold pProc
 refine bindR_ne pMust_ne fun x1 i1 h1=>?_
 have k1:=pMust_facts wf hi h1
 refine bindR_ne pName_ne fun x2 i2 h2=>?_
 have k2:=pName_facts wf k1.1 h2
 refine bindR_ne pMust_ne fun x3 i3 h3=>?_
 have k3:=pMust_facts wf k2.1 h3
 have n4:pNames0 l f 0 i3≠none:=by
  unfold pNames0
  split
  ·exact okR_ne
  ·exact pNames_some wf f _ 0 i3 k3.1 (by omega)
 refine bindR_ne n4 fun x4 i4 h4=>?_
 have k4:=pNames0_facts wf k3.1 h4
 have n5:(if isT l i4 ⟨#[45,62]⟩=true then pName l 0 (i4+1) else okR noS i4)≠none:=by
  split
  ·exact pName_ne
  ·exact okR_ne
 refine bindR_ne n5 fun x5 i5 h5=>?_
 have k5:i5 < l.length∧i4≤i5:=by
  split at h5
  ·rename_i ht
   have:=pName_facts wf (wf.more i4 k4.1 (isT_kind ht)) h5
   omega
  ·cases h5;exact ⟨k4.1,Nat.le_refl _⟩
 refine bindR_ne pMust_ne fun x6 i6 h6=>?_
 have k6:=pMust_facts wf k5.1 h6
 refine bindR_ne (pVars_some wf f _ 0 i6 k6.1 (by omega)) fun x7 i7 h7=>?_
 have k7:=pVars_facts wf _ _ _ _ _ _ k6.1 h7
 refine bindR_ne (pS_some wf f _ 0 i7 k7.1 (by simp only [Ls.rank];omega)) fun x8 i8 h8=>?_
 exact bindR_ne pMust_ne fun _ _ _=>okR_ne
theorem pProg_some {l:List Tk} (wf:WfT l):∀ (f:Nat) (acc:List PD) (i:Nat),i < l.length→16 * (l.length - i)+4≤f→pProg l f acc i≠none:=by
 intro f
 induction f with
 |zero=>intro acc i hi h;omega
 |succ f ih=>
  intro acc i hi h
  unfold pProg
  refine bindR_ne (pProc_some wf hi (by omega)) fun p j hp=>?_
  have k:=pProc_facts wf hi hp
  split
  ·exact okR_ne
  ·exact ih _ j k.1 (by omega)
end Go.Proofs.Hk

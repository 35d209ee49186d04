import Derived.Test.YtcihapdaapkdjaaGreatDoorX7
import Derived.Test.YtcihapdaapkdjaaGreatDoorH41
set_option linter.unusedSimpArgs false
set_option linter.unusedVariables false
set_option maxRecDepth 4000
namespace Go.Proofs.Hk
open Go Go.Proofs
theorem Rel.from' {α:Type} {l:List Tk} {r:Res' α} {i i':Nat} {e a:Int} {g:St α} (he:e=0) (h:Rel l r i e a g) (hi:i'≤i):Rel l r i' e a g:=⟨h.lt,Nat.le_trans hi h.le,h.good,fun h=>absurd he h⟩
theorem Rel.one {α:Type} {l:List Tk} {r:Res' α} {i:Nat} {e a:Int} {g:St α} (h:Rel l r i e a g):Rel l (bindR r fun s j=>okR [s] j) i e a ⟨[g.v],g.j,g.e,g.a⟩:=Rel.bind h (Rel.ok h.lt _ _ _)
theorem Rel.no {α:Type} {l:List Tk} {r1 r2:Res' α} {b:Bool} {i:Nat} {e a:Int} {g:St α} (h:¬ (e=0∧b=true)) (h1:Rel l r2 i e a g):Rel l (if b=true then r1 else r2) i e a g:=by
 cases b with
 |false=>exact h1
 |true=>
  have he:¬ e=0:=fun he=>h ⟨he,rfl⟩
  exact ⟨h1.lt,h1.le,fun k=>absurd k he,h1.bad⟩
theorem rtake_y (q:Nat) (l:List Tk) (i:Nat) (d e a:Int) (s:ByteArray) (wf:WfT l) (hi:i < l.length) (he:e=0) (h:isT l i s=true):To 38 [.ptr q 0,ss s] [(q,rs l i d e a)] (.ret (bb true)) [(q,rs l (i+1) d e a)]:=by subst he;exact rtake_yes q l i d a s wf hi h
theorem rtake_n (q:Nat) (l:List Tk) (i:Nat) (d e a:Int) (s:ByteArray) (hi:i < l.length) (h:¬ (e=0∧isT l i s=true)):To 38 [.ptr q 0,ss s] [(q,rs l i d e a)] (.ret (bb false)) [(q,rs l i d e a)]:=by
 by_cases he:e=0
 ·subst he
  exact rtake_no q l i d a s hi (Bool.eq_false_iff.2 fun k=>h ⟨rfl,k⟩)
 ·exact rtake_er q l i d e a s hi he
/-- A statement's parts. -/
def encSDp:SD→HV
 |.mk k n p e a b el=>.agg [ii k,ss n,ss p,LNs e,LLNs a,LSDs b,LSDs el]
theorem encSD_p (s:SD):encSD s=encSDp s:=by obtain ⟨k,n,p,e,a,b,el⟩:=s;exact encSDm ..
def SD.k:SD→Int|.mk k _ _ _ _ _ _=>k
def SD.n:SD→ByteArray|.mk _ n _ _ _ _ _=>n
def SD.p:SD→ByteArray|.mk _ _ p _ _ _ _=>p
def SD.e:SD→List ND|.mk _ _ _ e _ _ _=>e
def SD.as:SD→List (List ND)|.mk _ _ _ _ a _ _=>a
def SD.b:SD→List SD|.mk _ _ _ _ _ b _=>b
def SD.el:SD→List SD|.mk _ _ _ _ _ _ el=>el
def encSDq (s:SD):HV:=.agg [ii s.k,ss s.n,ss s.p,LNs s.e,LLNs s.as,LSDs s.b,LSDs s.el]
theorem encSD_q (s:SD):encSD s=encSDq s:=by obtain ⟨k,n,p,e,a,b,el⟩:=s;exact encSDm ..
/-- What stmt comes to. -/
abbrev Stmt1 (l:List Tk) (q i:Nat) (d a:Int) (r:Res' (List SD)):Prop:=HCalls cx.P 47 [.ptr q 0] [(q,rs l i d 0 a)] fun E st=>∃ g:St SD,Rel l r i 0 a ⟨[g.v],g.j,g.e,g.a⟩∧E = .ret (encSD g.v)∧st=[(q,rs l g.j d g.e g.a)]
abbrev endS (l:List Tk) (q i:Nat) (d a:Int) (r:Res' (List SD)) (e:HEnd) (st:HS):Prop:=∃ g:St SD,Rel l r i 0 a ⟨[g.v],g.j,g.e,g.a⟩∧WeakerE e (.ret (encSD g.v))∧Subp [(q,rs l g.j d g.e g.a)] st
structure AllR (l:List Tk) (n:Nat):Prop where
 stmt:∀ f,f≤n→∀ (q:Nat) (d:Int) (i:Nat) (a:Int),i < l.length→0≤d→d≤50→pS l f .stmt d i≠none→Stmt1 l q i d a (pS l f .stmt d i)
 stmts:∀ f,f≤n→∀ (q:Nat) (d:Int),0≤d→∀ (i:Nat) (e a:Int),i < l.length→(e=0→d≤50∧pS l f (.stmts []) d i≠none)→HCalls cx.P 39 [.ptr q 0] [(q,rs l i d e a)] fun E st=>∃ g:St (List SD),Rel l (pS l f (.stmts []) d i) i e a g∧E = .ret (LSDs g.v)∧st=[(q,rs l g.j d g.e g.a)]
 block:∀ f,f≤n→∀ (q:Nat) (d:Int),0≤d→d≤50→XC l q d 54 [] LSDs (pS l f .block d)
end Go.Proofs.Hk

set_option linter.unusedSimpArgs false
set_option linter.unusedVariables false
set_option maxRecDepth 4000
namespace Go.Proofs.Hk
open Go Go.Proofs
set_option maxHeartbeats 4000000 in
theorem rst_havoc (l:List Tk) (wf:WfN l) (n:Nat) (IH:AllR l n) (q:Nat) (d a:Int) (h0:0≤d) (h1:d≤50) (i:Nat) (hi:i < l.length) (k0:¬ (tk l i).kind=1)  (ax:isT l i kHavoc=true) (hn:(bindR (pTail l d (pName l d (i+1)) fun x=>sdE 2 x []) fun s j=>okR [s] j)≠none):Stmt1 l q i d a (bindR (pTail l d (pName l d (i+1)) fun x=>sdE 2 x []) fun s j=>okR [s] j):=by
 have wt:=wf.toWfT
 have wl:=wt.len
 have ml:(l.map tokD).length=l.length:=by simp
 have g0:=getD_tk hi
 have hi1:=wt.more i hi (isT_kind ax)
 have Y:=rtake_yes q l i d a kHavoc wt hi ax
 have V:=(want_x l wt q d (tc 59)).out
 have C:=(name_x l wt q d).out (i+1) 0 a hi1 (fun _=>pName_ne)
 generalize (tk l i).kind=kd at *
 generalize (tk l i).text=tx at *
 generalize ((tk l i).pos:Int)=px at *
 have key:HCalls cx.P 47 [.ptr q 0] [(q,rs l i d 0 a)] (endS l q i d a (bindR (pTail l d (pName l d (i+1)) fun x=>sdE 2 x []) fun s j=>okR [s] j)):=by
  clear IH
  unfold rs at *
  refine sem_calls' cx (fn:=Tryz.f47) rfl rfl rfl rfl ?_
  repeat' first|((with_reducible refine DrawReg.id ?_);refine drawN cx [] rfl [] [] [0,1,2,3,4,5,6,7,8,9,10,11,12,13,14,15,16,17,18,19] (by repeat first|exact HTake.nil) rfl (by decide +kernel) ?_)|(refine DN.quiet rfl rfl rfl rfl ?_;(conv=>arg 7;whnf))|(refine DN.nilF ?_;(conv=>whnf))|refine Ops.tag rfl ?_|(refine OpsT.go ?_;(conv=>arg 7;whnf))|refine Stp.pure rfl ?_|((with_reducible refine PutK.isSet ?_);refine PutK.st ?_)|refine PutK.mk' rfl ?_|refine Ops.nil ?_|(with_reducible first|refine DStp.andT ?_)|((with_reducible refine DStp.isEq ?_);first|refine DStp.eqT ?_|refine DStp.eqF ?_)|refine DStp.pure rfl ?_|((with_reducible refine Look.id ?_);refine Look.at ?_;try (conv=>arg 7;whnf))|((with_reducible refine Side.id ?_);first|refine Side.auto ?_)|((with_reducible refine Br.id ?_);first|(with_reducible first|refine br_true rfl ?_|refine br_false rfl ?_))|((with_reducible refine SemWp.id ?_);first|refine sem_seq ?_|refine sem_region rfl ?_|refine sem_cond rfl ?_|refine sem_block ?_|refine sem_ret ?_|refine sem_draw ?_)|((with_reducible refine qThen.id ?_);first|refine qThen.go ?_)|((with_reducible refine hinBlock.id ?_);first|refine hinBlock.go ?_)|refine Stp.look ?_|refine Stp.call ?_|refine Stp.eff ?_|refine DStp.valS ?_|refine DStp.valSC ?_|refine DStp.look ?_|((with_reducible refine CallWp.id ?_);first|(refine callA cx (Y) ?_;(conv=>whnf))|(refine callX cx (C) (fun g1 hg1=>?_);(conv=>whnf))|(refine callX cx (V g1.j g1.e g1.a hg1.lt (fun _=>pMust_ne)) (fun gv hgv=>?_);(conv=>whnf)))|(refine newN (fun r hr=>?_);simp only [keys,List.nil_append,List.cons_append,List.map_cons,List.map_nil,List.mem_cons,List.not_mem_nil,not_or,or_false,not_false_eq_true] at hr;(repeat (obtain ⟨_,hr⟩:=hr)))|((with_reducible refine BodyR.id ?_);first|refine BodyR.ret ?_)|((with_reducible refine ResG.id ?_);first|refine ResG.cell rfl ?_|refine ResG.nil ?_)|((with_reducible refine LoadIs.id ?_);first|refine LoadIs.ag rfl rfl rfl ?_)|((with_reducible refine Upd.id ?_);first|(refine Upd.lit rfl ?_;(conv=>whnf)))|rw [g0]
  refine Fin.mk ⟨⟨.mk 2 g1.v noS [] [] [] [],gv.j,gv.e,gv.a⟩,((pTail.rel (mk:=fun x=>sdE 2 x []) hg1 hgv).one).from (by omega),by rw [encSDm];refine WeakerE.ret (Weaker.agg ?_);(repeat first|exact WeakerC.nil|refine WeakerC.cons ?_ rfl ?_|exact Weaker.refl _|exact Weaker.nil _|exact Weaker.tok _ _ _),Subp.tk⟩
 exact HCalls.toX key
set_option maxHeartbeats 4000000 in
theorem rst_assume (l:List Tk) (wf:WfN l) (n:Nat) (IH:AllR l n) (q:Nat) (d a:Int) (h0:0≤d) (h1:d≤50) (i:Nat) (hi:i < l.length) (k0:¬ (tk l i).kind=1) (a0:isT l i kHavoc=false) (ax:isT l i kAssume=true) (hn:(bindR (pTail l d (pEx l n .cond d (i+1)) fun x=>sdE 3 noS x) fun s j=>okR [s] j)≠none):Stmt1 l q i d a (bindR (pTail l d (pEx l n .cond d (i+1)) fun x=>sdE 3 noS x) fun s j=>okR [s] j):=by
 have wt:=wf.toWfT
 have wl:=wt.len
 have ml:(l.map tokD).length=l.length:=by simp
 have g0:=getD_tk hi
 have N0:=rtake_no q l i d a kHavoc hi a0
 have hi1:=wt.more i hi (isT_kind ax)
 have Y:=rtake_yes q l i d a kAssume wt hi ax
 have V:=(want_x l wt q d (tc 59)).out
 have C:=(cond_x l wf n q d h0 h1).out (i+1) 0 a hi1 (fun _=>pTail.ne (bindR_ne0 hn))
 generalize (tk l i).kind=kd at *
 generalize (tk l i).text=tx at *
 generalize ((tk l i).pos:Int)=px at *
 have key:HCalls cx.P 47 [.ptr q 0] [(q,rs l i d 0 a)] (endS l q i d a (bindR (pTail l d (pEx l n .cond d (i+1)) fun x=>sdE 3 noS x) fun s j=>okR [s] j)):=by
  clear IH
  unfold rs at *
  refine sem_calls' cx (fn:=Tryz.f47) rfl rfl rfl rfl ?_
  repeat' first|((with_reducible refine DrawReg.id ?_);refine drawN cx [] rfl [] [] [0,1,2,3,4,5,6,7,8,9,10,11,12,13,14,15,16,17,18,19] (by repeat first|exact HTake.nil) rfl (by decide +kernel) ?_)|(refine DN.quiet rfl rfl rfl rfl ?_;(conv=>arg 7;whnf))|(refine DN.nilF ?_;(conv=>whnf))|refine Ops.tag rfl ?_|(refine OpsT.go ?_;(conv=>arg 7;whnf))|refine Stp.pure rfl ?_|((with_reducible refine PutK.isSet ?_);refine PutK.st ?_)|refine PutK.mk' rfl ?_|refine Ops.nil ?_|(with_reducible first|refine DStp.andT ?_)|((with_reducible refine DStp.isEq ?_);first|refine DStp.eqT ?_|refine DStp.eqF ?_)|refine DStp.pure rfl ?_|((with_reducible refine Look.id ?_);refine Look.at ?_;try (conv=>arg 7;whnf))|((with_reducible refine Side.id ?_);first|refine Side.auto ?_)|((with_reducible refine Br.id ?_);first|(with_reducible first|refine br_true rfl ?_|refine br_false rfl ?_))|((with_reducible refine SemWp.id ?_);first|refine sem_seq ?_|refine sem_region rfl ?_|refine sem_cond rfl ?_|refine sem_block ?_|refine sem_ret ?_|refine sem_draw ?_)|((with_reducible refine qThen.id ?_);first|refine qThen.go ?_)|((with_reducible refine hinBlock.id ?_);first|refine hinBlock.go ?_)|refine Stp.look ?_|refine Stp.call ?_|refine Stp.eff ?_|refine DStp.valS ?_|refine DStp.valSC ?_|refine DStp.look ?_|((with_reducible refine CallWp.id ?_);first|(refine callA cx (N0) ?_;(conv=>whnf))|(refine callA cx (Y) ?_;(conv=>whnf))|(refine callX cx (C) (fun g1 hg1=>?_);(conv=>whnf))|(refine callX cx (V g1.j g1.e g1.a hg1.lt (fun _=>pMust_ne)) (fun gv hgv=>?_);(conv=>whnf)))|(refine newN (fun r hr=>?_);simp only [keys,List.nil_append,List.cons_append,List.map_cons,List.map_nil,List.mem_cons,List.not_mem_nil,not_or,or_false,not_false_eq_true] at hr;(repeat (obtain ⟨_,hr⟩:=hr)))|((with_reducible refine BodyR.id ?_);first|refine BodyR.ret ?_)|((with_reducible refine ResG.id ?_);first|refine ResG.cell rfl ?_|refine ResG.nil ?_)|((with_reducible refine LoadIs.id ?_);first|refine LoadIs.ag rfl rfl rfl ?_)|((with_reducible refine Upd.id ?_);first|(refine Upd.lit rfl ?_;(conv=>whnf)))|rw [g0]
  refine Fin.mk ⟨⟨.mk 3 noS noS g1.v [] [] [],gv.j,gv.e,gv.a⟩,((pTail.rel (mk:=fun x=>sdE 3 noS x) hg1 hgv).one).from (by omega),by rw [encSDm];refine WeakerE.ret (Weaker.agg ?_);(repeat first|exact WeakerC.nil|refine WeakerC.cons ?_ rfl ?_|exact Weaker.refl _|exact Weaker.nil _|exact Weaker.tok _ _ _),Subp.tk⟩
 exact HCalls.toX key
set_option maxHeartbeats 4000000 in
theorem rst_assert (l:List Tk) (wf:WfN l) (n:Nat) (IH:AllR l n) (q:Nat) (d a:Int) (h0:0≤d) (h1:d≤50) (i:Nat) (hi:i < l.length) (k0:¬ (tk l i).kind=1) (a0:isT l i kHavoc=false) (a1:isT l i kAssume=false) (ax:isT l i kAssert=true) (hn:(bindR (pTail l d (pEx l n .cond d (i+1)) fun x=>sdE 4 noS x) fun s j=>okR [s] j)≠none):Stmt1 l q i d a (bindR (pTail l d (pEx l n .cond d (i+1)) fun x=>sdE 4 noS x) fun s j=>okR [s] j):=by
 have wt:=wf.toWfT
 have wl:=wt.len
 have ml:(l.map tokD).length=l.length:=by simp
 have g0:=getD_tk hi
 have N0:=rtake_no q l i d a kHavoc hi a0
 have N1:=rtake_no q l i d a kAssume hi a1
 have hi1:=wt.more i hi (isT_kind ax)
 have Y:=rtake_yes q l i d a kAssert wt hi ax
 have V:=(want_x l wt q d (tc 59)).out
 have C:=(cond_x l wf n q d h0 h1).out (i+1) 0 a hi1 (fun _=>pTail.ne (bindR_ne0 hn))
 generalize (tk l i).kind=kd at *
 generalize (tk l i).text=tx at *
 generalize ((tk l i).pos:Int)=px at *
 have key:HCalls cx.P 47 [.ptr q 0] [(q,rs l i d 0 a)] (endS l q i d a (bindR (pTail l d (pEx l n .cond d (i+1)) fun x=>sdE 4 noS x) fun s j=>okR [s] j)):=by
  clear IH
  unfold rs at *
  refine sem_calls' cx (fn:=Tryz.f47) rfl rfl rfl rfl ?_
  repeat' first|((with_reducible refine DrawReg.id ?_);refine drawN cx [] rfl [] [] [0,1,2,3,4,5,6,7,8,9,10,11,12,13,14,15,16,17,18,19] (by repeat first|exact HTake.nil) rfl (by decide +kernel) ?_)|(refine DN.quiet rfl rfl rfl rfl ?_;(conv=>arg 7;whnf))|(refine DN.nilF ?_;(conv=>whnf))|refine Ops.tag rfl ?_|(refine OpsT.go ?_;(conv=>arg 7;whnf))|refine Stp.pure rfl ?_|((with_reducible refine PutK.isSet ?_);refine PutK.st ?_)|refine PutK.mk' rfl ?_|refine Ops.nil ?_|(with_reducible first|refine DStp.andT ?_)|((with_reducible refine DStp.isEq ?_);first|refine DStp.eqT ?_|refine DStp.eqF ?_)|refine DStp.pure rfl ?_|((with_reducible refine Look.id ?_);refine Look.at ?_;try (conv=>arg 7;whnf))|((with_reducible refine Side.id ?_);first|refine Side.auto ?_)|((with_reducible refine Br.id ?_);first|(with_reducible first|refine br_true rfl ?_|refine br_false rfl ?_))|((with_reducible refine SemWp.id ?_);first|refine sem_seq ?_|refine sem_region rfl ?_|refine sem_cond rfl ?_|refine sem_block ?_|refine sem_ret ?_|refine sem_draw ?_)|((with_reducible refine qThen.id ?_);first|refine qThen.go ?_)|((with_reducible refine hinBlock.id ?_);first|refine hinBlock.go ?_)|refine Stp.look ?_|refine Stp.call ?_|refine Stp.eff ?_|refine DStp.valS ?_|refine DStp.valSC ?_|refine DStp.look ?_|((with_reducible refine CallWp.id ?_);first|(refine callA cx (N0) ?_;(conv=>whnf))|(refine callA cx (N1) ?_;(conv=>whnf))|(refine callA cx (Y) ?_;(conv=>whnf))|(refine callX cx (C) (fun g1 hg1=>?_);(conv=>whnf))|(refine callX cx (V g1.j g1.e g1.a hg1.lt (fun _=>pMust_ne)) (fun gv hgv=>?_);(conv=>whnf)))|(refine newN (fun r hr=>?_);simp only [keys,List.nil_append,List.cons_append,List.map_cons,List.map_nil,List.mem_cons,List.not_mem_nil,not_or,or_false,not_false_eq_true] at hr;(repeat (obtain ⟨_,hr⟩:=hr)))|((with_reducible refine BodyR.id ?_);first|refine BodyR.ret ?_)|((with_reducible refine ResG.id ?_);first|refine ResG.cell rfl ?_|refine ResG.nil ?_)|((with_reducible refine LoadIs.id ?_);first|refine LoadIs.ag rfl rfl rfl ?_)|((with_reducible refine Upd.id ?_);first|(refine Upd.lit rfl ?_;(conv=>whnf)))|rw [g0]
  refine Fin.mk ⟨⟨.mk 4 noS noS g1.v [] [] [],gv.j,gv.e,gv.a⟩,((pTail.rel (mk:=fun x=>sdE 4 noS x) hg1 hgv).one).from (by omega),by rw [encSDm];refine WeakerE.ret (Weaker.agg ?_);(repeat first|exact WeakerC.nil|refine WeakerC.cons ?_ rfl ?_|exact Weaker.refl _|exact Weaker.nil _|exact Weaker.tok _ _ _),Subp.tk⟩
 exact HCalls.toX key
set_option maxHeartbeats 4000000 in
theorem rst_skip (l:List Tk) (wf:WfN l) (n:Nat) (IH:AllR l n) (q:Nat) (d a:Int) (h0:0≤d) (h1:d≤50) (i:Nat) (hi:i < l.length) (k0:¬ (tk l i).kind=1) (a0:isT l i kHavoc=false) (a1:isT l i kAssume=false) (a2:isT l i kAssert=false) (ax:isT l i kSkip=true) (hn:(bindR (bindR (pMust l (tc 59) d (i+1)) fun _ m=>okR (sdE 9 noS []) m) fun s j=>okR [s] j)≠none):Stmt1 l q i d a (bindR (bindR (pMust l (tc 59) d (i+1)) fun _ m=>okR (sdE 9 noS []) m) fun s j=>okR [s] j):=by
 have wt:=wf.toWfT
 have wl:=wt.len
 have ml:(l.map tokD).length=l.length:=by simp
 have g0:=getD_tk hi
 have N0:=rtake_no q l i d a kHavoc hi a0
 have N1:=rtake_no q l i d a kAssume hi a1
 have N2:=rtake_no q l i d a kAssert hi a2
 have hi1:=wt.more i hi (isT_kind ax)
 have Y:=rtake_yes q l i d a kSkip wt hi ax
 have C:=(want_x l wt q d (tc 59)).out (i+1) 0 a hi1 (fun _=>pMust_ne)
 generalize (tk l i).kind=kd at *
 generalize (tk l i).text=tx at *
 generalize ((tk l i).pos:Int)=px at *
 have key:HCalls cx.P 47 [.ptr q 0] [(q,rs l i d 0 a)] (endS l q i d a (bindR (bindR (pMust l (tc 59) d (i+1)) fun _ m=>okR (sdE 9 noS []) m) fun s j=>okR [s] j)):=by
  clear IH
  unfold rs at *
  refine sem_calls' cx (fn:=Tryz.f47) rfl rfl rfl rfl ?_
  repeat' first|((with_reducible refine DrawReg.id ?_);refine drawN cx [] rfl [] [] [0,1,2,3,4,5,6,7,8,9,10,11,12,13,14,15,16,17,18,19] (by repeat first|exact HTake.nil) rfl (by decide +kernel) ?_)|(refine DN.quiet rfl rfl rfl rfl ?_;(conv=>arg 7;whnf))|(refine DN.nilF ?_;(conv=>whnf))|refine Ops.tag rfl ?_|(refine OpsT.go ?_;(conv=>arg 7;whnf))|refine Stp.pure rfl ?_|((with_reducible refine PutK.isSet ?_);refine PutK.st ?_)|refine PutK.mk' rfl ?_|refine Ops.nil ?_|(with_reducible first|refine DStp.andT ?_)|((with_reducible refine DStp.isEq ?_);first|refine DStp.eqT ?_|refine DStp.eqF ?_)|refine DStp.pure rfl ?_|((with_reducible refine Look.id ?_);refine Look.at ?_;try (conv=>arg 7;whnf))|((with_reducible refine Side.id ?_);first|refine Side.auto ?_)|((with_reducible refine Br.id ?_);first|(with_reducible first|refine br_true rfl ?_|refine br_false rfl ?_))|((with_reducible refine SemWp.id ?_);first|refine sem_seq ?_|refine sem_region rfl ?_|refine sem_cond rfl ?_|refine sem_block ?_|refine sem_ret ?_|refine sem_draw ?_)|((with_reducible refine qThen.id ?_);first|refine qThen.go ?_)|((with_reducible refine hinBlock.id ?_);first|refine hinBlock.go ?_)|refine Stp.look ?_|refine Stp.call ?_|refine Stp.eff ?_|refine DStp.valS ?_|refine DStp.valSC ?_|refine DStp.look ?_|((with_reducible refine CallWp.id ?_);first|(refine callA cx (N0) ?_;(conv=>whnf))|(refine callA cx (N1) ?_;(conv=>whnf))|(refine callA cx (N2) ?_;(conv=>whnf))|(refine callA cx (Y) ?_;(conv=>whnf))|(refine callX cx (C) (fun g1 hg1=>?_);(conv=>whnf)))|(refine newN (fun r hr=>?_);simp only [keys,List.nil_append,List.cons_append,List.map_cons,List.map_nil,List.mem_cons,List.not_mem_nil,not_or,or_false,not_false_eq_true] at hr;(repeat (obtain ⟨_,hr⟩:=hr)))|((with_reducible refine BodyR.id ?_);first|refine BodyR.ret ?_)|((with_reducible refine ResG.id ?_);first|refine ResG.cell rfl ?_|refine ResG.nil ?_)|((with_reducible refine LoadIs.id ?_);first|refine LoadIs.ag rfl rfl rfl ?_)|((with_reducible refine Upd.id ?_);first|(refine Upd.lit rfl ?_;(conv=>whnf)))|rw [g0]
  refine Fin.mk ⟨⟨.mk 9 noS noS [] [] [] [],g1.j,g1.e,g1.a⟩,(Rel.one (Rel.bind (k:=fun _ m=>okR (sdE 9 noS []) m) hg1 (Rel.ok hg1.lt _ _ _))).from (by omega),by rw [encSDm];refine WeakerE.ret (Weaker.agg ?_);(repeat first|exact WeakerC.nil|refine WeakerC.cons ?_ rfl ?_|exact Weaker.refl _|exact Weaker.nil _|exact Weaker.tok _ _ _),Subp.tk⟩
 exact HCalls.toX key
set_option maxHeartbeats 4000000 in
theorem rst_none (l:List Tk) (wf:WfN l) (n:Nat) (IH:AllR l n) (q:Nat) (d a:Int) (h0:0≤d) (h1:d≤50) (i:Nat) (hi:i < l.length) (k0:¬ (tk l i).kind=1) (a0:isT l i kHavoc=false) (a1:isT l i kAssume=false) (a2:isT l i kAssert=false) (a3:isT l i kSkip=false) (a4:isT l i kIf=false) (a5:isT l i kWhile=false) (a6:isT l i kEither=false) (hn:((errR 4 i d:Res' (List SD)))≠none):Stmt1 l q i d a ((errR 4 i d:Res' (List SD))):=by
 have wt:=wf.toWfT
 have wl:=wt.len
 have ml:(l.map tokD).length=l.length:=by simp
 have g0:=getD_tk hi
 have N0:=rtake_no q l i d a kHavoc hi a0
 have N1:=rtake_no q l i d a kAssume hi a1
 have N2:=rtake_no q l i d a kAssert hi a2
 have N3:=rtake_no q l i d a kSkip hi a3
 have N4:=rtake_no q l i d a kIf hi a4
 have N5:=rtake_no q l i d a kWhile hi a5
 have N6:=rtake_no q l i d a kEither hi a6
 have R:=fun v:SD=>Rel.er (c:=4) (d:=d) (a:=a) hi (Nat.le_refl i) (by decide) [v]
 have C:=rfail_ok q l i d a 4 hi
 generalize (tk l i).kind=kd at *
 generalize (tk l i).text=tx at *
 generalize ((tk l i).pos:Int)=px at *
 have key:HCalls cx.P 47 [.ptr q 0] [(q,rs l i d 0 a)] (endS l q i d a ((errR 4 i d:Res' (List SD)))):=by
  clear IH
  unfold rs at *
  refine sem_calls' cx (fn:=Tryz.f47) rfl rfl rfl rfl ?_
  repeat' first|((with_reducible refine DrawReg.id ?_);refine drawN cx [] rfl [] [] [0,1,2,3,4,5,6,7,8,9,10,11,12,13,14,15,16,17,18,19] (by repeat first|exact HTake.nil) rfl (by decide +kernel) ?_)|(refine DN.quiet rfl rfl rfl rfl ?_;(conv=>arg 7;whnf))|(refine DN.nilF ?_;(conv=>whnf))|refine Ops.tag rfl ?_|(refine OpsT.go ?_;(conv=>arg 7;whnf))|refine Stp.pure rfl ?_|((with_reducible refine PutK.isSet ?_);refine PutK.st ?_)|refine PutK.mk' rfl ?_|refine Ops.nil ?_|(with_reducible first|refine DStp.andT ?_)|((with_reducible refine DStp.isEq ?_);first|refine DStp.eqT ?_|refine DStp.eqF ?_)|refine DStp.pure rfl ?_|((with_reducible refine Look.id ?_);refine Look.at ?_;try (conv=>arg 7;whnf))|((with_reducible refine Side.id ?_);first|refine Side.auto ?_)|((with_reducible refine Br.id ?_);first|(with_reducible first|refine br_false rfl ?_))|((with_reducible refine SemWp.id ?_);first|refine sem_seq ?_|refine sem_region rfl ?_|refine sem_cond rfl ?_|refine sem_block ?_|refine sem_ret ?_|refine sem_draw ?_)|((with_reducible refine qThen.id ?_);first|refine qThen.go ?_|refine qThen.ret ?_)|((with_reducible refine hinBlock.id ?_);first|refine hinBlock.ret ?_)|refine Stp.look ?_|refine Stp.call ?_|refine Stp.eff ?_|refine DStp.valS ?_|refine DStp.valSC ?_|refine DStp.look ?_|((with_reducible refine CallWp.id ?_);first|(refine callA cx (N0) ?_;(conv=>whnf))|(refine callA cx (N1) ?_;(conv=>whnf))|(refine callA cx (N2) ?_;(conv=>whnf))|(refine callA cx (N3) ?_;(conv=>whnf))|(refine callA cx (N4) ?_;(conv=>whnf))|(refine callA cx (N5) ?_;(conv=>whnf))|(refine callA cx (N6) ?_;(conv=>whnf))|(refine callA cx (C) ?_;(conv=>whnf)))|(refine newN (fun r hr=>?_);simp only [keys,List.nil_append,List.cons_append,List.map_cons,List.map_nil,List.mem_cons,List.not_mem_nil,not_or,or_false,not_false_eq_true] at hr;(repeat (obtain ⟨_,hr⟩:=hr)))|((with_reducible refine BodyR.id ?_);first|refine BodyR.ret ?_)|((with_reducible refine ResG.id ?_);first|refine ResG.cell rfl ?_|refine ResG.nil ?_)|((with_reducible refine LoadIs.id ?_);first|refine LoadIs.ag rfl rfl rfl ?_)|((with_reducible refine Upd.id ?_);first|(refine Upd.lit rfl ?_;(conv=>whnf)))|rw [g0]
  refine Fin.mk ⟨⟨.mk 0 noS noS [] [] [] [],i,4,px⟩,R _,by rw [encSDm];refine WeakerE.ret (Weaker.agg ?_);(repeat first|exact WeakerC.nil|refine WeakerC.cons ?_ rfl ?_|exact Weaker.refl _|exact Weaker.nil _|exact Weaker.tok _ _ _),Subp.tk⟩
 exact HCalls.toX key
end Go.Proofs.Hk

set_option linter.unusedSimpArgs false
set_option linter.unusedVariables false
set_option maxRecDepth 4000
namespace Go.Proofs.Hk
open Go Go.Proofs
set_option maxHeartbeats 4000000 in
theorem rst_while (l:List Tk) (wf:WfN l) (n:Nat) (IH:AllR l n) (q:Nat) (d a:Int) (h0:0≤d) (h1:d≤50) (i:Nat) (hi:i < l.length) (k0:¬ (tk l i).kind=1) (a0:isT l i kHavoc=false) (a1:isT l i kAssume=false) (a2:isT l i kAssert=false) (a3:isT l i kSkip=false) (a4:isT l i kIf=false) (ax:isT l i kWhile=true) (hn:(bindR (pEx l n .cond d (i+1)) fun x j=>bindR (pS l n .block d j) fun b m=>okR [SD.mk 6 noS noS x [] b []] m)≠none):Stmt1 l q i d a (bindR (pEx l n .cond d (i+1)) fun x j=>bindR (pS l n .block d j) fun b m=>okR [SD.mk 6 noS noS x [] b []] m):=by
 have wt:=wf.toWfT
 have wl:=wt.len
 have ml:(l.map tokD).length=l.length:=by simp
 have g0:=getD_tk hi
 have N0:=rtake_no q l i d a kHavoc hi a0
 have N1:=rtake_no q l i d a kAssume hi a1
 have N2:=rtake_no q l i d a kAssert hi a2
 have N3:=rtake_no q l i d a kSkip hi a3
 have N4:=rtake_no q l i d a kIf hi a4
 have hi1:=wt.more i hi (isT_kind ax)
 have Y:=rtake_yes q l i d a kWhile wt hi ax
 have C:=(cond_x l wf n q d h0 h1).out (i+1) 0 a hi1 (fun _=>bindR_ne0 hn)
 have BL:=(IH.block n (Nat.le_refl _) q d h0 h1).out
 generalize (tk l i).kind=kd at *
 generalize (tk l i).text=tx at *
 generalize ((tk l i).pos:Int)=px at *
 have key:HCalls cx.P 47 [.ptr q 0] [(q,rs l i d 0 a)] (endS l q i d a (bindR (pEx l n .cond d (i+1)) fun x j=>bindR (pS l n .block d j) fun b m=>okR [SD.mk 6 noS noS x [] b []] m)):=by
  clear IH
  unfold rs at *
  refine sem_calls' cx (fn:=Tryz.f47) rfl rfl rfl rfl ?_
  repeat' first|((with_reducible refine DrawReg.id ?_);refine drawN cx [] rfl [] [] [0,1,2,3,4,5,6,7,8,9,10,11,12,13,14,15,16,17,18,19] (by repeat first|exact HTake.nil) rfl (by decide +kernel) ?_)|(refine DN.quiet rfl rfl rfl rfl ?_;(conv=>arg 7;whnf))|(refine DN.nilF ?_;(conv=>whnf))|refine Ops.tag rfl ?_|(refine OpsT.go ?_;(conv=>arg 7;whnf))|refine Stp.pure rfl ?_|((with_reducible refine PutK.isSet ?_);refine PutK.st ?_)|refine PutK.mk' rfl ?_|refine Ops.nil ?_|(with_reducible first|refine DStp.andT ?_)|((with_reducible refine DStp.isEq ?_);first|refine DStp.eqT ?_|refine DStp.eqF ?_)|refine DStp.pure rfl ?_|((with_reducible refine Look.id ?_);refine Look.at ?_;try (conv=>arg 7;whnf))|((with_reducible refine Side.id ?_);first|refine Side.auto ?_)|((with_reducible refine Br.id ?_);first|(with_reducible first|refine br_true rfl ?_|refine br_false rfl ?_))|((with_reducible refine SemWp.id ?_);first|refine sem_seq ?_|refine sem_region rfl ?_|refine sem_cond rfl ?_|refine sem_block ?_|refine sem_ret ?_|refine sem_draw ?_)|((with_reducible refine qThen.id ?_);first|refine qThen.go ?_|refine qThen.ret ?_)|((with_reducible refine hinBlock.id ?_);first|refine hinBlock.ret ?_)|refine Stp.look ?_|refine Stp.call ?_|refine Stp.eff ?_|refine DStp.valS ?_|refine DStp.valSC ?_|refine DStp.look ?_|((with_reducible refine CallWp.id ?_);first|(refine callA cx (N0) ?_;(conv=>whnf))|(refine callA cx (N1) ?_;(conv=>whnf))|(refine callA cx (N2) ?_;(conv=>whnf))|(refine callA cx (N3) ?_;(conv=>whnf))|(refine callA cx (N4) ?_;(conv=>whnf))|(refine callA cx (Y) ?_;(conv=>whnf))|(refine callX cx (C) (fun g1 hg1=>?_);(conv=>whnf))|(refine callX cx (BL g1.j g1.e g1.a hg1.lt (fun h=>bindR_ne0 (Rel.ne hg1 (fun _=>hn) h))) (fun g2 hg2=>?_);(conv=>whnf)))|(refine newN (fun r hr=>?_);simp only [keys,List.nil_append,List.cons_append,List.map_cons,List.map_nil,List.mem_cons,List.not_mem_nil,not_or,or_false,not_false_eq_true] at hr;(repeat (obtain ⟨_,hr⟩:=hr)))|((with_reducible refine BodyR.id ?_);first|refine BodyR.ret ?_)|((with_reducible refine ResG.id ?_);first|refine ResG.cell rfl ?_|refine ResG.nil ?_)|((with_reducible refine LoadIs.id ?_);first|refine LoadIs.ag rfl rfl rfl ?_)|((with_reducible refine Upd.id ?_);first|(refine Upd.lit rfl ?_;(conv=>whnf)))|rw [g0]
  refine Fin.mk ⟨⟨.mk 6 noS noS g1.v [] g2.v [],g2.j,g2.e,g2.a⟩,Rel.from (by refine Rel.bind hg1 ?_;refine Rel.bind hg2 ?_;exact Rel.ok hg2.lt _ _ _) (Nat.le_succ i),by rw [encSDm];refine WeakerE.ret (Weaker.agg ?_);(repeat first|exact WeakerC.nil|refine WeakerC.cons ?_ rfl ?_|exact Weaker.refl _|exact Weaker.nil _|exact Weaker.tok _ _ _),Subp.tk⟩
 exact HCalls.toX key
set_option maxHeartbeats 4000000 in
theorem rst_either (l:List Tk) (wf:WfN l) (n:Nat) (IH:AllR l n) (q:Nat) (d a:Int) (h0:0≤d) (h1:d≤50) (i:Nat) (hi:i < l.length) (k0:¬ (tk l i).kind=1) (a0:isT l i kHavoc=false) (a1:isT l i kAssume=false) (a2:isT l i kAssert=false) (a3:isT l i kSkip=false) (a4:isT l i kIf=false) (a5:isT l i kWhile=false) (ax:isT l i kEither=true) (hn:(bindR (pS l n .block d (i+1)) fun b j=>bindR (pMust l tOr d j) fun _ m=>bindR (pS l n .block d m) fun b2 m2=>okR [SD.mk 7 noS noS [] [] b b2] m2)≠none):Stmt1 l q i d a (bindR (pS l n .block d (i+1)) fun b j=>bindR (pMust l tOr d j) fun _ m=>bindR (pS l n .block d m) fun b2 m2=>okR [SD.mk 7 noS noS [] [] b b2] m2):=by
 have wt:=wf.toWfT
 have wl:=wt.len
 have ml:(l.map tokD).length=l.length:=by simp
 have g0:=getD_tk hi
 have N0:=rtake_no q l i d a kHavoc hi a0
 have N1:=rtake_no q l i d a kAssume hi a1
 have N2:=rtake_no q l i d a kAssert hi a2
 have N3:=rtake_no q l i d a kSkip hi a3
 have N4:=rtake_no q l i d a kIf hi a4
 have N5:=rtake_no q l i d a kWhile hi a5
 have hi1:=wt.more i hi (isT_kind ax)
 have Y:=rtake_yes q l i d a kEither wt hi ax
 have BL:=(IH.block n (Nat.le_refl _) q d h0 h1).out
 have W:=(want_x l wt q d tOr).out
 generalize (tk l i).kind=kd at *
 generalize (tk l i).text=tx at *
 generalize ((tk l i).pos:Int)=px at *
 have key:HCalls cx.P 47 [.ptr q 0] [(q,rs l i d 0 a)] (endS l q i d a (bindR (pS l n .block d (i+1)) fun b j=>bindR (pMust l tOr d j) fun _ m=>bindR (pS l n .block d m) fun b2 m2=>okR [SD.mk 7 noS noS [] [] b b2] m2)):=by
  clear IH
  unfold rs at *
  refine sem_calls' cx (fn:=Tryz.f47) rfl rfl rfl rfl ?_
  repeat' first|((with_reducible refine DrawReg.id ?_);refine drawN cx [] rfl [] [] [0,1,2,3,4,5,6,7,8,9,10,11,12,13,14,15,16,17,18,19] (by repeat first|exact HTake.nil) rfl (by decide +kernel) ?_)|(refine DN.quiet rfl rfl rfl rfl ?_;(conv=>arg 7;whnf))|(refine DN.nilF ?_;(conv=>whnf))|refine Ops.tag rfl ?_|(refine OpsT.go ?_;(conv=>arg 7;whnf))|refine Stp.pure rfl ?_|((with_reducible refine PutK.isSet ?_);refine PutK.st ?_)|refine PutK.mk' rfl ?_|refine Ops.nil ?_|(with_reducible first|refine DStp.andT ?_)|((with_reducible refine DStp.isEq ?_);first|refine DStp.eqT ?_|refine DStp.eqF ?_)|refine DStp.pure rfl ?_|((with_reducible refine Look.id ?_);refine Look.at ?_;try (conv=>arg 7;whnf))|((with_reducible refine Side.id ?_);first|refine Side.auto ?_)|((with_reducible refine Br.id ?_);first|(with_reducible first|refine br_true rfl ?_|refine br_false rfl ?_))|((with_reducible refine SemWp.id ?_);first|refine sem_seq ?_|refine sem_region rfl ?_|refine sem_cond rfl ?_|refine sem_block ?_|refine sem_ret ?_|refine sem_draw ?_)|((with_reducible refine qThen.id ?_);first|refine qThen.go ?_|refine qThen.ret ?_)|((with_reducible refine hinBlock.id ?_);first|refine hinBlock.ret ?_)|refine Stp.look ?_|refine Stp.call ?_|refine Stp.eff ?_|refine DStp.valS ?_|refine DStp.valSC ?_|refine DStp.look ?_|((with_reducible refine CallWp.id ?_);first|(refine callA cx (N0) ?_;(conv=>whnf))|(refine callA cx (N1) ?_;(conv=>whnf))|(refine callA cx (N2) ?_;(conv=>whnf))|(refine callA cx (N3) ?_;(conv=>whnf))|(refine callA cx (N4) ?_;(conv=>whnf))|(refine callA cx (N5) ?_;(conv=>whnf))|(refine callA cx (Y) ?_;(conv=>whnf))|(refine callX cx (BL (i+1) 0 a hi1 (fun _=>bindR_ne0 hn)) (fun g1 hg1=>?_);(conv=>whnf))|(refine callX cx (W g1.j g1.e g1.a hg1.lt (fun _=>pMust_ne)) (fun g2 hg2=>?_);(conv=>whnf))|(refine callTX cx (BL g2.j g2.e g2.a hg2.lt (fun h=>bindR_ne0 (Rel.ne hg2 (fun h=>Rel.ne hg1 (fun _=>hn) h) h))) (by repeat first|exact HTake.nil|(apply HTake.cons;focus (repeat first|exact HPick.hit))) (fun g3 hg3=>?_);(conv=>whnf)))|(refine newN (fun r hr=>?_);simp only [keys,List.nil_append,List.cons_append,List.map_cons,List.map_nil,List.mem_cons,List.not_mem_nil,not_or,or_false,not_false_eq_true] at hr;(repeat (obtain ⟨_,hr⟩:=hr)))|((with_reducible refine BodyR.id ?_);first|refine BodyR.ret ?_)|((with_reducible refine ResG.id ?_);first|refine ResG.cell rfl ?_|refine ResG.nil ?_)|((with_reducible refine LoadIs.id ?_);first|refine LoadIs.ag rfl rfl rfl ?_)|((with_reducible refine Upd.id ?_);first|(refine Upd.lit rfl ?_;(conv=>whnf)))|rw [g0]
  refine Fin.mk ⟨⟨.mk 7 noS noS [] [] g1.v g3.v,g3.j,g3.e,g3.a⟩,Rel.from (by refine Rel.bind hg1 ?_;refine Rel.bind hg2 ?_;refine Rel.bind hg3 ?_;exact Rel.ok hg3.lt _ _ _) (Nat.le_succ i),by rw [encSDm];refine WeakerE.ret (Weaker.agg ?_);(repeat first|exact WeakerC.nil|refine WeakerC.cons ?_ rfl ?_|exact Weaker.refl _|exact Weaker.nil _|exact Weaker.tok _ _ _),Subp.tk⟩
 exact HCalls.toX key
set_option maxHeartbeats 4000000 in
theorem rst_if (l:List Tk) (wf:WfN l) (n:Nat) (IH:AllR l n) (q:Nat) (d a:Int) (h0:0≤d) (h1:d≤50) (i:Nat) (hi:i < l.length) (k0:¬ (tk l i).kind=1) (a0:isT l i kHavoc=false) (a1:isT l i kAssume=false) (a2:isT l i kAssert=false) (a3:isT l i kSkip=false) (ax:isT l i kIf=true) (hn:(bindR (pEx l n .cond d (i+1)) fun x j=>bindR (pS l n .block d j) fun b m=>if isT l m kElse=true then bindR (pS l n .block d (m+1)) fun b2 m2=>okR [SD.mk 5 noS noS x [] b b2] m2 else okR [SD.mk 5 noS noS x [] b []] m)≠none):Stmt1 l q i d a (bindR (pEx l n .cond d (i+1)) fun x j=>bindR (pS l n .block d j) fun b m=>if isT l m kElse=true then bindR (pS l n .block d (m+1)) fun b2 m2=>okR [SD.mk 5 noS noS x [] b b2] m2 else okR [SD.mk 5 noS noS x [] b []] m):=by
 have wt:=wf.toWfT
 have wl:=wt.len
 have ml:(l.map tokD).length=l.length:=by simp
 have g0:=getD_tk hi
 have N0:=rtake_no q l i d a kHavoc hi a0
 have N1:=rtake_no q l i d a kAssume hi a1
 have N2:=rtake_no q l i d a kAssert hi a2
 have N3:=rtake_no q l i d a kSkip hi a3
 have hi1:=wt.more i hi (isT_kind ax)
 have Y:=rtake_yes q l i d a kIf wt hi ax
 have C:=(cond_x l wf n q d h0 h1).out (i+1) 0 a hi1 (fun _=>bindR_ne0 hn)
 have BL:=(IH.block n (Nat.le_refl _) q d h0 h1).out
 have TY:=fun (j:Nat) (e a:Int) (hj:j < l.length)=>rtake_y q l j d e a kElse wt hj
 have TN:=fun (j:Nat) (e a:Int) (hj:j < l.length)=>rtake_n q l j d e a kElse hj
 generalize (tk l i).kind=kd at *
 generalize (tk l i).text=tx at *
 generalize ((tk l i).pos:Int)=px at *
 have key:HCalls cx.P 47 [.ptr q 0] [(q,rs l i d 0 a)] (endS l q i d a (bindR (pEx l n .cond d (i+1)) fun x j=>bindR (pS l n .block d j) fun b m=>if isT l m kElse=true then bindR (pS l n .block d (m+1)) fun b2 m2=>okR [SD.mk 5 noS noS x [] b b2] m2 else okR [SD.mk 5 noS noS x [] b []] m)):=by
  clear IH
  unfold rs at *
  refine sem_calls' cx (fn:=Tryz.f47) rfl rfl rfl rfl ?_
  repeat' first|((with_reducible refine DrawReg.id ?_);refine drawN cx [] rfl [] [] [0,1,2,3,4,5,6,7,8,9,10,11,12,13,14,15,16,17,18,19] (by repeat first|exact HTake.nil) rfl (by decide +kernel) ?_)|(refine DN.quiet rfl rfl rfl rfl ?_;(conv=>arg 7;whnf))|(refine DN.nilF ?_;(conv=>whnf))|refine Ops.tag rfl ?_|(refine OpsT.go ?_;(conv=>arg 7;whnf))|refine Stp.pure rfl ?_|((with_reducible refine PutK.isSet ?_);refine PutK.set (by repeat first|exact HsetIs.hit|apply HsetIs.miss (by first|(apply Ne.symm;assumption))) ?_)|refine PutK.mk' rfl ?_|refine Ops.nil ?_|(with_reducible first|refine DStp.andT ?_)|((with_reducible refine DStp.isEq ?_);first|refine DStp.eqT ?_|refine DStp.eqF ?_)|refine DStp.pure rfl ?_|((with_reducible refine Look.id ?_);refine Look.at ?_;try (conv=>arg 7;whnf))|((with_reducible refine Side.id ?_);first|refine Side.auto ?_)|((with_reducible refine Br.id ?_);first|(with_reducible first|refine br_true rfl ?_|refine br_false rfl ?_))|((with_reducible refine SemWp.id ?_);first|refine sem_seq ?_|refine sem_region rfl ?_|refine sem_cond rfl ?_|refine sem_block ?_|refine sem_draw ?_)|((with_reducible refine qThen.id ?_);first|refine qThen.go ?_)|refine Stp.look ?_|refine Stp.call ?_|refine Stp.eff ?_|refine DStp.valS ?_|refine DStp.valSC ?_|refine DStp.look ?_|((with_reducible refine CallWp.id ?_);first|(refine callA cx (N0) ?_;(conv=>whnf))|(refine callA cx (N1) ?_;(conv=>whnf))|(refine callA cx (N2) ?_;(conv=>whnf))|(refine callA cx (N3) ?_;(conv=>whnf))|(refine callA cx (Y) ?_;(conv=>whnf))|(refine callX cx (C) (fun g1 hg1=>?_);(conv=>whnf))|(refine callX cx (BL g1.j g1.e g1.a hg1.lt (fun h=>bindR_ne0 (Rel.ne hg1 (fun _=>hn) h))) (fun g2 hg2=>?_);(conv=>whnf)))|(refine newN (fun r hr=>?_);simp only [keys,List.nil_append,List.cons_append,List.map_cons,List.map_nil,List.mem_cons,List.not_mem_nil,not_or,or_false,not_false_eq_true] at hr;(repeat (obtain ⟨_,hr⟩:=hr)))|((with_reducible refine Upd.id ?_);first|(refine Upd.lit rfl ?_;(conv=>whnf)))|rw [g0]
  by_cases ce:g2.e=0∧isT l g2.j kElse=true
  ·have TT:=TY g2.j g2.e g2.a hg2.lt ce.1 ce.2
   have hj1:=wt.more g2.j hg2.lt (isT_kind ce.2)
   have B2:=BL (g2.j+1) g2.e g2.a hj1 (fun h=>(by
    have:=Rel.ne hg2 (fun h=>Rel.ne hg1 (fun _=>hn) h) h
    rw [if_pos ce.2] at this
    exact bindR_ne0 this))
   repeat' first|refine Ops.tag rfl ?_|(refine OpsT.go ?_;(conv=>arg 7;whnf))|refine Stp.pure rfl ?_|((with_reducible refine PutK.isSet ?_);refine PutK.st ?_)|refine PutK.mk' rfl ?_|refine Ops.nil ?_|((with_reducible refine Look.id ?_);refine Look.at ?_;try (conv=>arg 7;whnf))|((with_reducible refine Side.id ?_);first|refine Side.auto ?_)|((with_reducible refine Br.id ?_);first|(with_reducible first|refine br_true rfl ?_))|((with_reducible refine SemWp.id ?_);first|refine sem_seq ?_|refine sem_region rfl ?_|refine sem_cond rfl ?_|refine sem_ret ?_)|((with_reducible refine qThen.id ?_);first|refine qThen.go ?_|refine qThen.ret ?_)|((with_reducible refine hinBlock.id ?_);first|refine hinBlock.ret ?_)|refine Stp.look ?_|refine Stp.call ?_|refine Stp.eff ?_|((with_reducible refine CallWp.id ?_);first|(refine callA cx (TT) ?_;(conv=>whnf))|(refine callX cx (B2) (fun g3 hg3=>?_);(conv=>whnf)))|((with_reducible refine BodyR.id ?_);first|refine BodyR.ret ?_)|((with_reducible refine ResG.id ?_);first|refine ResG.cell rfl ?_|refine ResG.nil ?_)|((with_reducible refine LoadIs.id ?_);first|refine LoadIs.ag rfl rfl rfl ?_)|((with_reducible refine Upd.id ?_);first|(refine Upd.lit rfl ?_;(conv=>whnf)))
   refine Fin.mk ⟨⟨.mk 5 noS noS g1.v [] g2.v g3.v,g3.j,g3.e,g3.a⟩,Rel.from (by refine Rel.bind hg1 ?_;refine Rel.bind hg2 ?_;rw [if_pos ce.2];refine Rel.from' ce.1 (i:=g2.j+1) ?_ (Nat.le_succ _);refine Rel.bind hg3 ?_;exact Rel.ok hg3.lt _ _ _) (Nat.le_succ i),by rw [encSDm];refine WeakerE.ret (Weaker.agg ?_);(repeat first|exact WeakerC.nil|refine WeakerC.cons ?_ rfl ?_|exact Weaker.refl _|exact Weaker.nil _|exact Weaker.tok _ _ _),Subp.tk⟩
  ·have TT:=TN g2.j g2.e g2.a hg2.lt ce
   repeat' first|refine Ops.tag rfl ?_|(refine OpsT.go ?_;(conv=>arg 7;whnf))|refine Stp.pure rfl ?_|((with_reducible refine PutK.isSet ?_);refine PutK.st ?_)|refine PutK.mk' rfl ?_|refine Ops.nil ?_|((with_reducible refine Look.id ?_);refine Look.at ?_;try (conv=>arg 7;whnf))|((with_reducible refine Br.id ?_);first|(with_reducible first|refine br_false rfl ?_))|((with_reducible refine SemWp.id ?_);first|refine sem_seq ?_|refine sem_region rfl ?_|refine sem_cond rfl ?_|refine sem_ret ?_|refine sem_skip ?_)|((with_reducible refine qThen.id ?_);first|refine qThen.go ?_|refine qThen.ret ?_)|((with_reducible refine hinBlock.id ?_);first|refine hinBlock.ret ?_)|refine Stp.look ?_|refine Stp.eff ?_|((with_reducible refine CallWp.id ?_);first|(refine callA cx (TT) ?_;(conv=>whnf)))|((with_reducible refine BodyR.id ?_);first|refine BodyR.ret ?_)|((with_reducible refine ResG.id ?_);first|refine ResG.cell rfl ?_|refine ResG.nil ?_)|((with_reducible refine LoadIs.id ?_);first|refine LoadIs.ag rfl rfl rfl ?_)|((with_reducible refine Upd.id ?_);first|(refine Upd.lit rfl ?_;(conv=>whnf)))
   refine Fin.mk ⟨⟨.mk 5 noS noS g1.v [] g2.v [],g2.j,g2.e,g2.a⟩,Rel.from (by refine Rel.bind hg1 ?_;refine Rel.bind hg2 ?_;refine Rel.no ce ?_;exact Rel.ok hg2.lt _ _ _) (Nat.le_succ i),by rw [encSDm];refine WeakerE.ret (Weaker.agg ?_);(repeat first|exact WeakerC.nil|refine WeakerC.cons ?_ rfl ?_|exact Weaker.refl _|exact Weaker.nil _|exact Weaker.tok _ _ _),Subp.tk⟩
 exact HCalls.toX key
end Go.Proofs.Hk

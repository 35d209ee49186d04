import Derived.Test.YtcihapdaapkdjaaGreatDoorX9d
import Derived.Test.YtcihapdaapkdjaaGreatDoorH41
set_option linter.unusedSimpArgs false
set_option linter.unusedVariables false
set_option maxRecDepth 4000
namespace Go.Proofs.Hk
open Go Go.Proofs
set_option maxHeartbeats 4000000 in
theorem rst_name (l:List Tk) (wf:WfN l) (n:Nat) (q:Nat) (d a:Int) (h0:0≤d) (h1:d≤50) (i:Nat) (hi:i < l.length) (k0:(tk l i).kind=1) (hn:(bindR (pNamed l n (tk l i).text d (i+1)) fun s j=>okR [s] j)≠none):Stmt1 l q i d a (bindR (pNamed l n (tk l i).text d (i+1)) fun s j=>okR [s] j):=by
 have wt:=wf.toWfT
 have wl:=wt.len
 have ml:(l.map tokD).length=l.length:=by simp
 have g0:=getD_tk hi
 have C:=rnamed l wf n q i d a h0 h1 hi k0 (bindR_ne0 hn)
 unfold Named at C
 simp only [encSD_q] at C
 rw [k0] at g0
 generalize (tk l i).text=tx at *
 generalize ((tk l i).pos:Int)=px at *
 have key:HCalls cx.P 47 [.ptr q 0] [(q,rs l i d 0 a)] (endS l q i d a (bindR (pNamed l n tx d (i+1)) fun s j=>okR [s] j)):=by
  unfold rs at *
  refine sem_calls' cx (fn:=Tryz.f47) rfl rfl rfl rfl ?_
  repeat' first|((with_reducible refine DrawReg.id ?_);refine drawN cx [] rfl [] [] [0,1,2,3,4,5,6,7,8,9,10,11,12,13,14,15,16,17,18,19] (by repeat first|exact HTake.nil) rfl (by decide +kernel) ?_)|(refine DN.quiet rfl rfl rfl rfl ?_;(conv=>arg 7;whnf))|(refine DN.nilF ?_;(conv=>whnf))|refine Ops.tag rfl ?_|(refine OpsT.go ?_;(conv=>arg 7;whnf))|refine Stp.pure rfl ?_|((with_reducible refine PutK.isSet ?_);refine PutK.st ?_)|refine PutK.mk' rfl ?_|refine Ops.nil ?_|(with_reducible first|refine DStp.andT ?_)|((with_reducible refine DStp.isEq ?_);first|refine DStp.eqT ?_)|refine DStp.pure rfl ?_|((with_reducible refine Look.id ?_);refine Look.at ?_;try (conv=>arg 7;whnf))|((with_reducible refine Side.id ?_);first|refine Side.auto ?_)|((with_reducible refine Br.id ?_);first|(with_reducible first|refine br_true rfl ?_))|((with_reducible refine SemWp.id ?_);first|refine sem_seq ?_|refine sem_region rfl ?_|refine sem_cond rfl ?_|refine sem_block ?_|refine sem_ret ?_|refine sem_draw ?_)|((with_reducible refine qThen.id ?_);first|refine qThen.go ?_|refine qThen.ret ?_)|((with_reducible refine hinBlock.id ?_);first|refine hinBlock.ret ?_)|refine Stp.look ?_|refine Stp.call ?_|refine Stp.eff ?_|refine DStp.valS ?_|refine DStp.valSC ?_|refine DStp.look ?_|((with_reducible refine CallWp.id ?_);first|(refine callX cx (C) (fun g1 hg1=>?_);(conv=>whnf)))|(refine newN (fun r hr=>?_);simp only [keys,List.nil_append,List.cons_append,List.map_cons,List.map_nil,List.mem_cons,List.not_mem_nil,not_or,or_false,not_false_eq_true] at hr;(repeat (obtain ⟨_,hr⟩:=hr)))|((with_reducible refine BodyR.id ?_);first|refine BodyR.ret ?_)|((with_reducible refine ResG.id ?_);first|refine ResG.cell rfl ?_|refine ResG.nil ?_)|((with_reducible refine LoadIs.id ?_);first|refine LoadIs.ag rfl rfl rfl ?_)|((with_reducible refine Upd.id ?_);first|(refine Upd.lit rfl ?_;(conv=>whnf)))|rw [g0]
  refine Fin.mk ⟨⟨g1.v,g1.j,g1.e,g1.a⟩,Rel.from hg1.one (Nat.le_succ i),by rw [encSD_q];exact WeakerE.refl _,Subp.tk⟩
 exact HCalls.toX key
theorem ended_tail (l:List Tk) (d:Int) {α:Type} (r:Res' α) (mk:α→SD):ended l d (bindR r fun a m=>okR (mk a) m)=pTail l d r mk:=rfl
theorem ended_ex (l:List Tk) (n:Nat) (lv:Lv) (d:Int) (i:Nat) (mk:List ND→SD):ended l d (bindR (pE l n lv d i) fun e j=>okR (mk (e.flat 0)) j)=pTail l d (pEx l n lv d i) mk:=by
 rw [pEx_bind l n lv d i fun x j=>okR (mk x) j];rfl
theorem rstmt_lvl (l:List Tk) (wf:WfN l) (n:Nat) (IH:AllR l n) (q:Nat) (d:Int) (i:Nat) (a:Int) (hi:i < l.length) (h0:0≤d) (h1:d≤50) (hn:pS l (n+1) .stmt d i≠none):Stmt1 l q i d a (pS l (n+1) .stmt d i):=by
 simp only [pS] at hn ⊢
 by_cases k0:(tk l i).kind=1
 ·rw [if_pos k0] at hn ⊢;exact rst_name l wf n q d a h0 h1 i hi k0 hn
 rw [if_neg k0] at hn ⊢
 cases a0:isT l i kHavoc with
 |true=>
  rw [if_pos a0] at hn
  rw [if_pos rfl]
  exact rst_havoc l wf n IH q d a h0 h1 i hi k0  a0 hn
 |false=>
 rw [if_neg (by rw [a0];exact Bool.false_ne_true)] at hn
 rw [if_neg Bool.false_ne_true]
 cases a1:isT l i kAssume with
 |true=>
  rw [if_pos a1] at hn
  rw [if_pos rfl]
  have e:ended l d (bindR (pE l n .cond d (i+1)) fun e j=>okR (sdE 3 noS (e.flat 0)) j)=pTail l d (pEx l n .cond d (i+1)) (fun x=>sdE 3 noS x):=ended_ex l n .cond d (i+1) _
  rw [e] at hn ⊢
  exact rst_assume l wf n IH q d a h0 h1 i hi k0 a0 a1 hn
 |false=>
 rw [if_neg (by rw [a1];exact Bool.false_ne_true)] at hn
 rw [if_neg Bool.false_ne_true]
 cases a2:isT l i kAssert with
 |true=>
  rw [if_pos a2] at hn
  rw [if_pos rfl]
  have e:ended l d (bindR (pE l n .cond d (i+1)) fun e j=>okR (sdE 4 noS (e.flat 0)) j)=pTail l d (pEx l n .cond d (i+1)) (fun x=>sdE 4 noS x):=ended_ex l n .cond d (i+1) _
  rw [e] at hn ⊢
  exact rst_assert l wf n IH q d a h0 h1 i hi k0 a0 a1 a2 hn
 |false=>
 rw [if_neg (by rw [a2];exact Bool.false_ne_true)] at hn
 rw [if_neg Bool.false_ne_true]
 cases a3:isT l i kSkip with
 |true=>
  rw [if_pos a3] at hn
  rw [if_pos rfl]
  exact rst_skip l wf n IH q d a h0 h1 i hi k0 a0 a1 a2 a3 hn
 |false=>
 rw [if_neg (by rw [a3];exact Bool.false_ne_true)] at hn
 rw [if_neg Bool.false_ne_true]
 cases a4:isT l i kIf with
 |true=>
  rw [if_pos a4] at hn
  rw [if_pos rfl]
  have e:=pEx_bind l n .cond d (i+1) fun x j=>bindR (pS l n .block d j) fun b m=>if isT l m kElse=true then bindR (pS l n .block d (m+1)) fun b2 m2=>okR [SD.mk 5 noS noS x [] b b2] m2 else okR [SD.mk 5 noS noS x [] b []] m
  rw [e] at hn ⊢
  exact rst_if l wf n IH q d a h0 h1 i hi k0 a0 a1 a2 a3 a4 hn
 |false=>
 rw [if_neg (by rw [a4];exact Bool.false_ne_true)] at hn
 rw [if_neg Bool.false_ne_true]
 cases a5:isT l i kWhile with
 |true=>
  rw [if_pos a5] at hn
  rw [if_pos rfl]
  have e:=pEx_bind l n .cond d (i+1) fun x j=>bindR (pS l n .block d j) fun b m=>okR [SD.mk 6 noS noS x [] b []] m
  rw [e] at hn ⊢
  exact rst_while l wf n IH q d a h0 h1 i hi k0 a0 a1 a2 a3 a4 a5 hn
 |false=>
 rw [if_neg (by rw [a5];exact Bool.false_ne_true)] at hn
 rw [if_neg Bool.false_ne_true]
 cases a6:isT l i kEither with
 |true=>
  rw [if_pos a6] at hn
  rw [if_pos rfl]
  exact rst_either l wf n IH q d a h0 h1 i hi k0 a0 a1 a2 a3 a4 a5 a6 hn
 |false=>
 rw [if_neg (by rw [a6];exact Bool.false_ne_true)] at hn
 rw [if_neg Bool.false_ne_true]
 exact rst_none l wf n IH q d a h0 h1 i hi k0 a0 a1 a2 a3 a4 a5 a6 hn
end Go.Proofs.Hk

set_option linter.unusedSimpArgs false
set_option linter.unusedVariables false
set_option maxRecDepth 4000
namespace Go.Proofs.Hk
open Go Go.Proofs
theorem rstmts_er (l:List Tk) (q i:Nat) (d e a:Int) (hi:i < l.length) (he:¬ e=0):To 39 [.ptr q 0] [(q,rs l i d e a)] (.ret (LSDs [])) [(q,rs l i d e a)]:=by
 unfold rs at *
 refine HCalls.to (sem_calls' cx (fn:=Tryz.f39) rfl rfl rfl rfl ?_)
 repeat' first|refine Ops.tag rfl ?_|(refine OpsT.go ?_;(conv=>arg 7;whnf))|refine Stp.pure rfl ?_|refine Ops.nil ?_|((with_reducible refine SemWp.id ?_);first|refine sem_seq ?_|refine sem_region rfl ?_|refine sem_block ?_)|((with_reducible refine qThen.id ?_);first|refine qThen.go ?_)
 refine sem_loop cx (ι:=Unit) (fun _=>True) (fun _=>[(0,.sure,.ptr q 0),(3,.sure,.v (.slice none 0 0))]) (fun _=>[(q,.cells [LTk l,ii i,ii d,ii e,ii a] 56)]) (fun _=>0) () trivial (by repeat' first|exact Sub.nil _|refine Sub.auto ?_) (Subp.of_eq rfl) ?_
 rintro _ _
 repeat' first|refine Ops.tag rfl ?_|(with_reducible first|refine OpsT.no ?_)|(refine OpsT.go ?_;(conv=>arg 7;whnf))|(with_reducible first|refine Stp.andF ?_)|((with_reducible refine Stp.isEq ?_);first|refine Stp.eqF ?_)|refine Stp.pure rfl ?_|refine PutK.mk' rfl ?_|refine Ops.nil ?_|((with_reducible refine Look.id ?_);refine Look.at ?_;try (conv=>arg 7;whnf))|((with_reducible refine Side.id ?_);first|refine Side.auto ?_)|((with_reducible refine Br.id ?_);first|(with_reducible first|refine br_false rfl ?_))|((with_reducible refine SemWp.id ?_);first|refine sem_seq ?_|refine sem_region rfl ?_|refine sem_cond rfl ?_|refine sem_exit ?_|refine sem_ret ?_)|((with_reducible refine qThen.id ?_);first|refine qThen.go ?_)|refine Stp.valS ?_|refine Stp.look ?_|((with_reducible refine BodyR.id ?_);first|refine BodyR.ret ?_)|((with_reducible refine ResG.id ?_);first|refine ResG.tmp rfl ?_|refine ResG.nil ?_)
 refine Fin.mk ⟨(.ret (Weaker.nil _)),Subp.tk⟩
theorem rblock_er (l:List Tk) (q i:Nat) (d e a:Int) (h0:0≤d) (h1:d≤50) (hi:i < l.length) (he:¬ e=0):To 54 [.ptr q 0] [(q,rs l i d e a)] (.ret (LSDs [])) [(q,rs l i d e a)]:=by
 have O:=ropen_er q l i d e a (tc 123) hi he h0 h1
 have S:=rstmts_er l q i (d+1) e a hi he
 have W:=rwant_er q l i (d+1) e a (tc 125) hi he
 have ed:d+1 - 1=d:=by omega
 unfold rs at *
 refine HCalls.to (sem_calls' cx (fn:=Tryz.f54) rfl rfl rfl rfl ?_)
 repeat' first|refine Ops.tag rfl ?_|(refine OpsT.go ?_;(conv=>arg 7;whnf))|((with_reducible refine Stp.isSum ?_);refine Stp.sum ?_)|refine Stp.pure rfl ?_|((with_reducible refine PutK.isSet ?_);refine PutK.st ?_)|refine PutK.mk' rfl ?_|refine Ops.nil ?_|((with_reducible refine Look.id ?_);refine Look.at ?_;try (conv=>arg 7;whnf))|((with_reducible refine Side.id ?_);first|refine Side.auto ?_)|((with_reducible refine SemWp.id ?_);first|refine sem_seq ?_|refine sem_region rfl ?_|refine sem_ret ?_)|((with_reducible refine qThen.id ?_);first|refine qThen.go ?_)|refine Stp.valS ?_|refine Stp.look ?_|refine Stp.call ?_|refine Stp.eff ?_|((with_reducible refine CallWp.id ?_);first|(refine callA cx (O) ?_;(conv=>whnf))|(refine callA cx (S) ?_;(conv=>whnf))|(refine callA cx (W) ?_;(conv=>whnf)))|((with_reducible refine BodyR.id ?_);first|refine BodyR.ret ?_)|((with_reducible refine ResG.id ?_);first|refine ResG.tmp rfl ?_|refine ResG.nil ?_)|((with_reducible refine Upd.id ?_);first|(refine Upd.lit rfl ?_;(conv=>whnf)))
 rw [ed]
 refine Fin.mk ?_
 refine ⟨WeakerE.refl _,Subp.tk⟩
theorem pBlock_eq (l:List Tk) (n:Nat) (d:Int) (i:Nat):pS l (n+1) .block d i=bindR (pOpen l (tc 123) d i) fun _ j=>bindR (pS l n (.stmts []) (d+1) j) fun b j=>bindR (pMust l (tc 125) (d+1) j) fun _ m=>okR b m:=by
 simp only [pS]
 unfold pOpen
 cases isT l i (tc 123) with
 |false=>rfl
 |true=>
  rw [if_pos rfl,if_pos rfl]
  by_cases hd:50≤d
  ·rw [if_pos hd,if_pos hd];rfl
  ·rw [if_neg hd,if_neg hd]
   show bindR _ _=bindR _ _
   refine congrArg (bindR _) (funext fun b=>funext fun j=>?_)
   unfold pMust
   split<;>rfl
theorem open_d {l:List Tk} {s:ByteArray} {d:Int} {i:Nat} {e a:Int} {g:St Unit} (h:Rel l (pOpen l s d i) i e a g) (h0:g.e=0):¬ 50≤d:=by
 by_cases he:e=0
 ·have k:=h.good he
  unfold pOpen at k
  split at k
  ·rename_i hr
   split at hr
   ·split at hr
    ·cases hr
    ·rename_i hd;exact hd
   ·cases hr
  ·rename_i hr
   exact absurd (k.2.2.1.symm.trans h0) k.1
  ·exact k.elim
 ·exact absurd ((h.bad he).2.1.symm.trans h0) he
abbrev endB (l:List Tk) (q i:Nat) (d e0 a:Int) (r:Res' (List SD)) (e:HEnd) (st:HS):Prop:=∃ g:St (List SD),Rel l r i e0 a g∧WeakerE e (.ret (LSDs g.v))∧Subp [(q,rs l g.j d g.e g.a)] st
set_option maxHeartbeats 4000000 in
theorem rblock_lvl (l:List Tk) (wf:WfN l) (n:Nat) (IH:AllR l n) (q:Nat) (d:Int) (h0:0≤d) (h1:d≤50):XC l q d 54 [] LSDs (pS l (n+1) .block d):=by
 refine ⟨fun i e a hi hn=>?_⟩
 have wt:=wf.toWfT
 rw [pBlock_eq] at hn ⊢
 have O:=open_x l wt q (tc 123) d h0 h1 i e a hi
 have S:=IH.stmts n (Nat.le_refl _) q (d+1) (by omega)
 have W:=(want_x l wt q (d+1) (tc 125)).out
 have ed:d+1 - 1=d:=by omega
 have key:HCalls cx.P 54 [.ptr q 0] [(q,rs l i d e a)] (endB l q i d e a (bindR (pOpen l (tc 123) d i) fun _ j=>bindR (pS l n (.stmts []) (d+1) j) fun b j=>bindR (pMust l (tc 125) (d+1) j) fun _ m=>okR b m)):=by
  clear IH
  unfold rs at *
  refine sem_calls' cx (fn:=Tryz.f54) rfl rfl rfl rfl ?_
  repeat' first|refine Ops.tag rfl ?_|(refine OpsT.go ?_;(conv=>arg 7;whnf))|((with_reducible refine Stp.isSum ?_);refine Stp.sum ?_)|refine Stp.pure rfl ?_|((with_reducible refine PutK.isSet ?_);refine PutK.st ?_)|refine PutK.mk' rfl ?_|refine Ops.nil ?_|((with_reducible refine Look.id ?_);refine Look.at ?_;try (conv=>arg 7;whnf))|((with_reducible refine Side.id ?_);first|refine Side.auto ?_)|((with_reducible refine SemWp.id ?_);first|refine sem_seq ?_|refine sem_region rfl ?_|refine sem_ret ?_)|((with_reducible refine qThen.id ?_);first|refine qThen.go ?_)|refine Stp.valS ?_|refine Stp.look ?_|refine Stp.call ?_|refine Stp.eff ?_|((with_reducible refine CallWp.id ?_);first|(refine callX cx (O) (fun g1 hg1=>?_);(conv=>whnf))|(refine callX cx (S g1.j g1.e g1.a hg1.lt (fun h=>⟨by have:=open_d hg1 h;omega,bindR_ne0 (Rel.ne hg1 hn h)⟩)) (fun g2 hg2=>?_);(conv=>whnf))|(refine callX cx (W g2.j g2.e g2.a hg2.lt (fun _=>pMust_ne)) (fun g3 hg3=>?_);(conv=>whnf)))|((with_reducible refine BodyR.id ?_);first|refine BodyR.ret ?_)|((with_reducible refine ResG.id ?_);first|refine ResG.tmp rfl ?_|refine ResG.nil ?_)|((with_reducible refine Upd.id ?_);first|(refine Upd.lit rfl ?_;(conv=>whnf)))
  rw [ed]
  refine Fin.mk ⟨⟨g2.v,g3.j,g3.e,g3.a⟩,by refine Rel.bind hg1 ?_;refine Rel.bind hg2 ?_;refine Rel.bind hg3 ?_;exact Rel.ok hg3.lt _ _ _,WeakerE.refl _,Subp.tk⟩
 exact HCalls.toX key
structure StI (l:List Tk) (n:Nat) (d:Int) (R:Res' (List SD)) (i:Nat) (e0 a0:Int) (x:Nat × List SD × Nat × Int × Int):Prop where
 fuel:x.1≤n+1
 lt:x.2.2.1 < l.length
 l1:x.2.2.2.1=0→x.2.1.length≤x.2.2.1
 l2:x.2.1.length≤x.2.2.1+1
 ne:x.2.2.2.1=0→d≤50∧pS l x.1 (.stmts x.2.1) d x.2.2.1≠none
 k:∀ G,Rel l (pS l x.1 (.stmts x.2.1) d x.2.2.1) x.2.2.1 x.2.2.2.1 x.2.2.2.2 G→Rel l R i e0 a0 G
set_option maxHeartbeats 4000000 in
theorem rstmts_lvl (l:List Tk) (wf:WfN l) (n:Nat) (IH:AllR l n) (q:Nat) (d:Int) (h0:0≤d) (i:Nat) (e a:Int) (hi:i < l.length) (hn:e=0→d≤50∧pS l (n+1) (.stmts []) d i≠none):HCalls cx.P 39 [.ptr q 0] [(q,rs l i d e a)] fun E st=>∃ g:St (List SD),Rel l (pS l (n+1) (.stmts []) d i) i e a g∧E = .ret (LSDs g.v)∧st=[(q,rs l g.j d g.e g.a)]:=by
 have wt:=wf.toWfT
 have wl:=wt.len
 have key:HCalls cx.P 39 [.ptr q 0] [(q,rs l i d e a)] (endB l q i d e a (pS l (n+1) (.stmts []) d i)):=by
  have IS:=fun j a hj=>ris_ok q l j d a (tc 125) hj
  have ST:=IH.stmt
  clear IH
  have I0:StI l n d (pS l (n+1) (.stmts []) d i) i e a (n+1,[],i,e,a):=⟨Nat.le_refl _,hi,fun _=>Nat.zero_le _,Nat.zero_le _,hn,fun G h=>h⟩
  clear hn
  generalize pS l (n+1) (.stmts []) d i=R at *
  unfold rs at *
  refine sem_calls' cx (fn:=Tryz.f39) rfl rfl rfl rfl ?_
  repeat' first|refine Ops.tag rfl ?_|(refine OpsT.go ?_;(conv=>arg 7;whnf))|refine Stp.pure rfl ?_|refine Ops.nil ?_|((with_reducible refine SemWp.id ?_);first|refine sem_seq ?_|refine sem_region rfl ?_|refine sem_block ?_)|((with_reducible refine qThen.id ?_);first|refine qThen.go ?_)
  refine sem_nil_own cx 3 7 rfl ?_
  intro rt hrt
  simp only [keys,List.map_cons,List.map_nil,List.mem_cons,List.not_mem_nil,not_or,or_false,not_false_eq_true] at hrt
  have hq:q≠rt:=fun e=>hrt e.symm
  have hq':rt≠q:=hrt
  refine sem_loop cx (ι:=Nat × List SD × Nat × Int × Int) (StI l n d R i e a) (fun x=>[(0,.sure,.ptr q 0),(3,.sure,.list (.own rt 0) 7 (x.2.1.map encSD))])
   (fun x=>[(q,.cells [LTk l,ii x.2.2.1,ii d,ii x.2.2.2.1,ii x.2.2.2.2] 56),(rt,.tok x.2.1.length)])
   (fun x=>x.1) (n+1,[],i,e,a) I0 (by repeat' first|exact Sub.nil _|refine Sub.auto ?_) Subp.tk ?_
  clear I0 hi
  rintro ⟨g,acc,j,e',a'⟩ hJ
  obtain ⟨hg,hj,l1,l2,ne,K⟩:=hJ
  dsimp only at hg hj l1 l2 ne K ⊢
  have ml:(acc.map encSD).length=acc.length:=by simp
  by_cases he:e'=0
  rotate_left
  ·clear ST IS
   have RR:=K ⟨acc,j,e',a'⟩ ⟨hj,Nat.le_refl _,fun h=>absurd h he,fun _=>⟨rfl,rfl,rfl⟩⟩
   clear K ne l1
   repeat' first|refine Ops.tag rfl ?_|(with_reducible first|refine OpsT.no ?_)|(refine OpsT.go ?_;(conv=>arg 7;whnf))|(with_reducible first|refine Stp.andF ?_)|((with_reducible refine Stp.isEq ?_);first|refine Stp.eqF ?_)|refine Stp.pure rfl ?_|refine PutK.mk' rfl ?_|refine Ops.nil ?_|((with_reducible refine Look.id ?_);refine Look.at ?_;try (conv=>arg 7;whnf))|((with_reducible refine Side.id ?_);first|refine Side.auto ?_)|((with_reducible refine Br.id ?_);first|(with_reducible first|refine br_false rfl ?_))|((with_reducible refine SemWp.id ?_);first|refine sem_seq ?_|refine sem_region rfl ?_|refine sem_cond rfl ?_|refine sem_exit ?_|refine sem_ret ?_)|((with_reducible refine qThen.id ?_);first|refine qThen.go ?_)|refine Stp.valS ?_|refine Stp.look ?_|((with_reducible refine BodyR.id ?_);first|refine BodyR.ret ?_)|((with_reducible refine ResG.id ?_);first|refine ResG.tmp rfl ?_|refine ResG.nil ?_)
   refine Fin.mk ⟨⟨acc,j,e',a'⟩,RR,.ret (Weaker.tok _ _ _),Subp.tk⟩
  subst he
  have l1:=l1 rfl
  obtain ⟨h1,ne⟩:=ne rfl
  cases g with
  |zero=>exact absurd rfl ne
  |succ g=>
  have I:=IS j a' hj
  simp only [pS] at ne K
  cases b3:isT l j (tc 125) with
  |true=>
   rw [b3] at I
   have RR:=K ⟨acc,j,0,a'⟩ (by rw [if_pos b3];exact Rel.ok hj _ _ _)
   clear ST IS K ne
   repeat' first|refine Ops.tag rfl ?_|((with_reducible first|refine OpsT.yes ?_);(conv=>arg 7;whnf))|(refine OpsT.go ?_;(conv=>arg 7;whnf))|(with_reducible first|refine Stp.andT ?_|refine Stp.notT ?_)|((with_reducible refine Stp.isEq ?_);first|refine Stp.eqT ?_)|refine Stp.pure rfl ?_|refine PutK.mk' rfl ?_|refine Ops.nil ?_|((with_reducible refine Look.id ?_);refine Look.at ?_;try (conv=>arg 7;whnf))|((with_reducible refine Side.id ?_);first|refine Side.auto ?_)|((with_reducible refine Br.id ?_);first|(with_reducible first|refine br_false rfl ?_))|((with_reducible refine SemWp.id ?_);first|refine sem_seq ?_|refine sem_region rfl ?_|refine sem_cond rfl ?_|refine sem_exit ?_|refine sem_ret ?_)|((with_reducible refine qThen.id ?_);first|refine qThen.go ?_)|refine Stp.valS ?_|refine Stp.look ?_|refine Stp.call ?_|((with_reducible refine CallWp.id ?_);first|(refine callA cx (I) ?_;(conv=>whnf)))|((with_reducible refine BodyR.id ?_);first|refine BodyR.ret ?_)|((with_reducible refine ResG.id ?_);first|refine ResG.tmp rfl ?_|refine ResG.nil ?_)
   refine Fin.mk ⟨⟨acc,j,0,a'⟩,RR,.ret (Weaker.tok _ _ _),Subp.tk⟩
  |false=>
   have nb:¬ isT l j (tc 125)=true:=by rw [b3];exact Bool.false_ne_true
   rw [if_neg nb] at ne K
   rw [b3] at I
   have C:=ST g (by omega) q d j a' hj h0 h1 (bindR_ne0 ne)
   unfold Stmt1 at C
   simp only [encSD_q] at C
   have F:=fun (b:List SD) m hb=>pS_facts wt g .stmt d j b m hj hb
   simp only [Ls.least] at F
   clear ST IS
   unfold rs encSDq at C
   repeat' first|refine Ops.tag rfl ?_|((with_reducible first|refine OpsT.yes ?_);(conv=>arg 7;whnf))|(refine OpsT.go ?_;(conv=>arg 7;whnf))|(with_reducible first|refine Stp.andT ?_|refine Stp.notF ?_)|((with_reducible refine Stp.isEq ?_);first|refine Stp.eqT ?_)|refine Stp.pure rfl ?_|((with_reducible refine PutK.isSet ?_);refine PutK.st ?_)|refine PutK.mk' rfl ?_|refine Ops.nil ?_|((with_reducible refine Look.id ?_);refine Look.at ?_;try (conv=>arg 7;whnf))|((with_reducible refine Side.id ?_);first|refine Side.auto ?_)|((with_reducible refine Br.id ?_);first|(with_reducible first|refine br_true rfl ?_))|((with_reducible refine SemWp.id ?_);first|refine sem_seq ?_|refine sem_region rfl ?_|refine sem_cond rfl ?_|refine sem_block ?_|refine sem_skip ?_)|((with_reducible refine qThen.id ?_);first|refine qThen.go ?_)|((with_reducible refine hinBlock.id ?_);first|refine hinBlock.go ?_)|((with_reducible refine hround.id ?_);first|refine hround.go ?_)|refine Stp.valS ?_|refine Stp.look ?_|refine Stp.call ?_|refine Stp.eff ?_|((with_reducible refine CallWp.id ?_);first|(refine callA cx (I) ?_;(conv=>whnf))|(refine callX cx (C) (fun g1 hg1=>?_);(conv=>whnf)))
   have e1:(acc ++ [g1.v]).map encSD=acc.map encSD ++ [.agg [ii g1.v.k,ss g1.v.n,ss g1.v.p,LNs g1.v.e,LLNs g1.v.as,LSDs g1.v.b,LSDs g1.v.el]]:=by rw [List.map_append,List.map_cons,List.map_nil,encSD_q];rfl
   have e2:(acc ++ [g1.v]).length=acc.length+1:=by simp
   refine Fin.mk ⟨(g,acc ++ [g1.v],g1.j,g1.e,g1.a),⟨by show g≤n+1;omega,hg1.lt,fun h=>?_,?_,fun h=>⟨h1,Rel.ne (g1:=⟨[g1.v],g1.j,g1.e,g1.a⟩) hg1 (fun _=>ne) h⟩,fun G hG=>K G (Rel.bind hg1 hG)⟩,by show g < g+1;omega,Sub.cons rfl rfl (Sub.cons rfl (by rw [e1]) (Sub.nil _)),?_⟩
   ·dsimp only at h ⊢
    rw [e2]
    have k:=hg1.good rfl
    split at k
    ·rename_i x m hb
     have:=F x m hb
     have k1:g1.j=m:=by injection k
     omega
    ·exact absurd (k.2.2.1.symm.trans h) k.1
    ·exact k.elim
   ·dsimp only
    rw [e2]
    have:=hg1.le
    dsimp only at this
    omega
   ·dsimp only
    rw [e2]
    exact Subp.tk
 exact HCalls.toX key
theorem allR (l:List Tk) (wf:WfN l):∀ n,AllR l n
 |0=>by
  constructor
  ·intro f hf q d i a hi h0 h1 hn;cases Nat.le_zero.1 hf;exact absurd rfl hn
  ·intro f hf q d h0 i e a hi hn
   cases Nat.le_zero.1 hf
   by_cases he:e=0
   ·exact absurd rfl (hn he).2
   ·exact HCalls.mono (rstmts_er l q i d e a hi he) fun E st ⟨g1,g2⟩=>⟨⟨[],i,e,a⟩,⟨hi,Nat.le_refl _,fun h=>absurd h he,fun _=>⟨rfl,rfl,rfl⟩⟩,g1,g2⟩
  ·intro f hf q d h0 h1
   cases Nat.le_zero.1 hf
   refine ⟨fun i e a hi hn=>?_⟩
   by_cases he:e=0
   ·exact absurd rfl (hn he)
   ·exact HCalls.mono (rblock_er l q i d e a h0 h1 hi he) fun E st ⟨g1,g2⟩=>⟨⟨[],i,e,a⟩,⟨hi,Nat.le_refl _,fun h=>absurd h he,fun _=>⟨rfl,rfl,rfl⟩⟩,g1,g2⟩
 |n+1=>by
  have IH:=allR l wf n
  constructor
  ·intro f hf q d i a hi h0 h1 hn
   rcases Nat.lt_or_ge n f with hlt|hge
   ·have:f=n+1:=by omega
    subst this
    exact rstmt_lvl l wf n IH q d i a hi h0 h1 hn
   ·exact IH.stmt f hge q d i a hi h0 h1 hn
  ·intro f hf q d h0 i e a hi hn
   rcases Nat.lt_or_ge n f with hlt|hge
   ·have:f=n+1:=by omega
    subst this
    exact rstmts_lvl l wf n IH q d h0 i e a hi hn
   ·exact IH.stmts f hge q d h0 i e a hi hn
  ·intro f hf q d h0 h1
   rcases Nat.lt_or_ge n f with hlt|hge
   ·have:f=n+1:=by omega
    subst this
    exact rblock_lvl l wf n IH q d h0 h1
   ·exact IH.block f hge q d h0 h1
end Go.Proofs.Hk

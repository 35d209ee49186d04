import Derived.Test.YtcihapdaapkdjaaGreatDoorX9c
import Derived.Test.YtcihapdaapkdjaaGreatDoorH41
set_option linter.unusedSimpArgs false
set_option linter.unusedVariables false
set_option maxRecDepth 4000
namespace Go.Proofs.Hk
open Go Go.Proofs
theorem nameR_yes {l:List Tk} (wf:WfT l) {d:Int} {i:Nat} (a:Int) (hi:i < l.length) (k:(tk l i).kind=1):Rel l (pName l d i) i 0 a ⟨(tk l i).text,i+1,0,a⟩:=by
 unfold pName
 rw [if_pos k]
 exact ⟨wf.more i hi (by omega),Nat.le_succ i,fun _=>rfl,fun h=>absurd rfl h⟩
theorem nameR_no {l:List Tk} {d:Int} {i:Nat} (a:Int) (hi:i < l.length) (k:¬ (tk l i).kind=1):Rel l (pName l d i) i 0 a ⟨noS,i,4,(tk l i).pos⟩:=by
 unfold pName
 rw [if_neg k]
 exact Rel.er hi (Nat.le_refl _) (by decide) _
structure VaI (l:List Tk) (R:Res' (List ByteArray)) (i:Nat) (e0 a0:Int) (x:Nat × List ByteArray × Nat × Int × Int):Prop where
 lt:x.2.2.1 < l.length
 len:x.2.1.length≤x.2.2.1
 ne:x.2.2.2.1=0→pVars l x.1 x.2.1 0 x.2.2.1≠none
 k:∀ G,Rel l (pVars l x.1 x.2.1 0 x.2.2.1) x.2.2.1 x.2.2.2.1 x.2.2.2.2 G→Rel l R i e0 a0 G
theorem pVars_yes {l:List Tk} {g:Nat} {acc:List ByteArray} {j:Nat} (h:isT l j kVar=true):pVars l (g+1) acc 0 j=bindR (pName l 0 (j+1)) fun n j=>bindR (pMust l (tc 59) 0 j) fun _ m=>pVars l g (acc ++ [n]) 0 m:=by
 conv=>lhs;unfold pVars
 rw [if_pos h]
abbrev tArrow:ByteArray:=⟨#[45,62]⟩
abbrev pArrow (l:List Tk) (i:Nat):Res' ByteArray:=if isT l i tArrow=true then pName l 0 (i+1) else okR noS i
theorem pProc_eq (l:List Tk) (f i:Nat):pProc l f i=bindR (pMust l kProc 0 i) fun _ i1=>bindR (pName l 0 i1) fun n i2=>bindR (pMust l (tc 40) 0 i2) fun _ i3=>bindR (pNames0 l f 0 i3) fun ps i4=>
 bindR (pArrow l i4) fun r i5=>bindR (pMust l (tc 123) 0 i5) fun _ i6=>
 bindR (pVars l f [] 0 i6) fun vs i7=>bindR (pS l f (.stmts []) 0 i7) fun b i8=>bindR (pMust l (tc 125) 0 i8) fun _ i9=>okR (⟨n,ps,r,vs,b⟩:PD) i9:=rfl
abbrev endQ (l:List Tk) (q i:Nat) (a:Int) (r:Res' PD) (e:HEnd) (st:HS):Prop:=∃ g:St PD,Rel l r i 0 a g∧WeakerE e (.ret (encPD g.v))∧Subp [(q,rs l g.j 0 g.e g.a)] st
set_option maxHeartbeats 8000000 in
theorem rproc (l:List Tk) (wf:WfN l) (f q i:Nat) (a:Int) (hi:i < l.length) (hn:pProc l f i≠none):HCalls cx.P 14 [.ptr q 0] [(q,rs l i 0 0 a)] fun E st=>∃ g:St PD,Rel l (pProc l f i) i 0 a g∧E = .ret (encPD g.v)∧st=[(q,rs l g.j 0 g.e g.a)]:=by
 have wt:=wf.toWfT
 have wl:=wt.len
 rw [pProc_eq] at hn ⊢
 have W0:=(want_x l wt q 0 kProc).out i 0 a hi (fun _=>pMust_ne)
 have NX:=(name_x l wt q 0).out
 have WP:=(want_x l wt q 0 (tc 40)).out
 have NS:=(names_x l wf f q 0 (Int.le_refl _) (by omega)).out
 have WB:=(want_x l wt q 0 (tc 123)).out
 have WE:=(want_x l wt q 0 (tc 125)).out
 have WS:=(want_x l wt q 0 (tc 59)).out
 have SX:=(allR l wf f).stmts f (Nat.le_refl _) q 0 (Int.le_refl _)
 have key:HCalls cx.P 14 [.ptr q 0] [(q,rs l i 0 0 a)] (endQ l q i a (bindR (pMust l kProc 0 i) fun _ i1=>bindR (pName l 0 i1) fun n i2=>bindR (pMust l (tc 40) 0 i2) fun _ i3=>bindR (pNames0 l f 0 i3) fun ps i4=>
   bindR (pArrow l i4) fun r i5=>bindR (pMust l (tc 123) 0 i5) fun _ i6=>
   bindR (pVars l f [] 0 i6) fun vs i7=>bindR (pS l f (.stmts []) 0 i7) fun b i8=>bindR (pMust l (tc 125) 0 i8) fun _ i9=>okR (⟨n,ps,r,vs,b⟩:PD) i9)):=by
  unfold rs at *
  refine sem_calls' cx (fn:=Tryz.f14) rfl rfl rfl rfl ?_
  repeat' first|refine Ops.tag rfl ?_|(refine OpsT.go ?_;(conv=>arg 7;whnf))|refine Stp.pure rfl ?_|((with_reducible refine PutK.isSet ?_);refine PutK.set (by repeat first|exact HsetIs.hit|apply HsetIs.miss (by first|(apply Ne.symm;assumption))) ?_)|refine PutK.mk' rfl ?_|refine Ops.nil ?_|((with_reducible refine Look.id ?_);refine Look.auto ?_ (by repeat first|exact HGet.hit|apply HGet.miss (by first|(apply Ne.symm;assumption)));try (conv=>arg 7;whnf))|((with_reducible refine Side.id ?_);first|refine Side.auto ?_)|((with_reducible refine SemWp.id ?_);first|refine sem_seq ?_|refine sem_region rfl ?_)|((with_reducible refine qThen.id ?_);first|refine qThen.go ?_)|refine Stp.look ?_|refine Stp.call ?_|refine Stp.eff ?_|((with_reducible refine CallWp.id ?_);first|(refine callX cx (W0) (fun g1 hg1=>?_);(conv=>whnf))|(refine callX cx (NX g1.j g1.e g1.a hg1.lt (fun _=>pName_ne)) (fun g2 hg2=>?_);(conv=>whnf))|(refine callX cx (WP g2.j g2.e g2.a hg2.lt (fun _=>pMust_ne)) (fun g3 hg3=>?_);(conv=>whnf))|(refine callTX cx (NS g3.j g3.e g3.a hg3.lt (fun h=>bindR_ne0 (Rel.ne hg3 (fun h=>Rel.ne hg2 (fun h=>Rel.ne hg1 (fun _=>hn) h) h) h))) (by repeat first|exact HTake.nil|(apply HTake.cons;focus (repeat first|exact HPick.hit))) (fun g4 hg4=>?_);(conv=>whnf)))|(refine newN (fun r hr=>?_);simp only [keys,List.nil_append,List.cons_append,List.map_cons,List.map_nil,List.mem_cons,List.not_mem_nil,not_or,or_false,not_false_eq_true] at hr;(repeat (obtain ⟨_,hr⟩:=hr)))|((with_reducible refine Upd.id ?_);first|(refine Upd.lit rfl ?_;(conv=>whnf)))
  have c4:=Rel.ne hg4 (fun h=>Rel.ne hg3 (fun h=>Rel.ne hg2 (fun h=>Rel.ne hg1 (fun _=>hn) h) h) h)
  clear NS WP W0
  rename_i r2 hr2 na1
  by_cases ce:g4.e=0∧isT l g4.j tArrow=true
  ·have TT:=rtake_y q l g4.j 0 g4.e g4.a tArrow wt hg4.lt ce.1 ce.2
   have hj1:=wt.more g4.j hg4.lt (isT_kind ce.2)
   have N5:=NX (g4.j+1) g4.e g4.a hj1 (fun _=>pName_ne)
   unfold rs at TT
   repeat' first|refine Ops.tag rfl ?_|(refine OpsT.go ?_;(conv=>arg 7;whnf))|refine Stp.pure rfl ?_|((with_reducible refine PutK.isSet ?_);refine PutK.set (by repeat first|exact HsetIs.hit|apply HsetIs.miss (by first|(apply Ne.symm;assumption))) ?_)|refine PutK.mk' rfl ?_|refine Ops.nil ?_|((with_reducible refine Look.id ?_);refine Look.auto ?_ (by repeat first|exact HGet.hit|apply HGet.miss (by first|(apply Ne.symm;assumption)));try (conv=>arg 7;whnf))|((with_reducible refine Side.id ?_);first|refine Side.auto ?_)|((with_reducible refine Br.id ?_);first|(with_reducible first|refine br_true rfl ?_))|((with_reducible refine SemWp.id ?_);first|refine sem_seq ?_|refine sem_region rfl ?_|refine sem_cond rfl ?_|refine sem_block ?_)|((with_reducible refine qThen.id ?_);first|refine qThen.go ?_)|refine Stp.look ?_|refine Stp.call ?_|refine Stp.eff ?_|((with_reducible refine CallWp.id ?_);first|(refine callA cx (TT) ?_;(conv=>whnf))|(refine callX cx (N5) (fun g5 hg5=>?_);(conv=>whnf))|(refine callX cx (WB g5.j g5.e g5.a hg5.lt (fun _=>pMust_ne)) (fun g6 hg6=>?_);(conv=>whnf)))|((with_reducible refine Upd.id ?_);first|(refine Upd.lit rfl ?_;(conv=>whnf)))
   have RA:Rel l (pArrow l g4.j) g4.j g4.e g4.a g5:=by unfold pArrow;rw [if_pos ce.2];exact Rel.from' ce.1 hg5 (Nat.le_succ _)
   clear NX WB
   have c6:=Rel.ne hg6 (fun h=>Rel.ne RA c4 h)
   refine sem_cellOwn cx _ 1 [ss g2.v,LSs' g4.v,ss g5.v] [.v (.slice none 0 0)] (by repeat first|exact HPick.hit|apply HPick.miss) ?_
   intro rv hrv
   simp only [keys,List.map_cons,List.map_nil,List.mem_cons,List.not_mem_nil,not_or,or_false,not_false_eq_true] at hrv
   (repeat (obtain ⟨_,hrv⟩:=hrv))
   simp only [List.cons_append,List.nil_append]
   have ne_q_r:q≠r:=(by first|assumption|(apply Ne.symm;assumption)|omega);have ne_q_r2:q≠r2:=(by first|assumption|(apply Ne.symm;assumption)|omega);have ne_q_rv:q≠rv:=(by first|assumption|(apply Ne.symm;assumption)|omega);have ne_r_q:r≠q:=(by first|assumption|(apply Ne.symm;assumption)|omega);have ne_r_r2:r≠r2:=(by first|assumption|(apply Ne.symm;assumption)|omega);have ne_r_rv:r≠rv:=(by first|assumption|(apply Ne.symm;assumption)|omega);have ne_r2_q:r2≠q:=(by first|assumption|(apply Ne.symm;assumption)|omega);have ne_r2_r:r2≠r:=(by first|assumption|(apply Ne.symm;assumption)|omega);have ne_r2_rv:r2≠rv:=(by first|assumption|(apply Ne.symm;assumption)|omega);have ne_rv_q:rv≠q:=(by first|assumption|(apply Ne.symm;assumption)|omega);have ne_rv_r:rv≠r:=(by first|assumption|(apply Ne.symm;assumption)|omega);have ne_rv_r2:rv≠r2:=(by first|assumption|(apply Ne.symm;assumption)|omega)
   have I0:VaI l (pVars l f [] 0 g6.j) g6.j g6.e g6.a (f,[],g6.j,g6.e,g6.a):=⟨hg6.lt,Nat.zero_le _,fun h=>bindR_ne0 (c6 h),fun G h=>h⟩
   refine sem_loop cx (ι:=Nat × List ByteArray × Nat × Int × Int) (VaI l (pVars l f [] 0 g6.j) g6.j g6.e g6.a) (fun x=>[(0,.sure,.ptr q 0),(2,.sure,.ptr r2 0),(3,.sure,.ptr r 0)]) (fun x=>[(q,.cells [LTk l,ii x.2.2.1,ii 0,ii x.2.2.2.1,ii x.2.2.2.2] 56),(r,.cells [ss g2.v,LSs' g4.v,ss g5.v,.list (.own rv 0) 1 (x.2.1.map ss),.v (.slice none 0 0)] 37),(rv,.tok x.2.1.length),(r2,.cells [.v (.string ⟨#[]⟩),.v (.slice none 0 0),.v (.string ⟨#[]⟩),.v (.slice none 0 0),.v (.slice none 0 0)] 37)]) (fun x=>x.1) (f,[],g6.j,g6.e,g6.a) I0 (by repeat' first|exact Sub.nil _|refine Sub.auto ?_) Subp.tk ?_
   clear I0
   rintro ⟨g,acc,j,e',a'⟩ hJ
   obtain ⟨hj,hla,ne,K⟩:=hJ
   dsimp only at hj hla ne K ⊢
   have ml:(acc.map ss).length=acc.length:=by simp
   by_cases cv:e'=0∧isT l j kVar=true
   rotate_left
   ·have TT:=rtake_n q l j 0 e' a' kVar hj cv
    have RV:=K ⟨acc,j,e',a'⟩ (by
     by_cases he:e'=0
     ·cases g with
      |zero=>exact absurd rfl (ne he)
      |succ g=>unfold pVars;exact Rel.no cv (Rel.ok hj _ _ _)
     ·exact ⟨hj,Nat.le_refl _,fun h=>absurd h he,fun _=>⟨rfl,rfl,rfl⟩⟩)
    have SS:=SX j e' a' hj (fun h=>⟨by omega,bindR_ne0 (Rel.ne RV c6 h)⟩)
    clear K ne WS SX
    unfold rs at *
    repeat' first|refine Ops.tag rfl ?_|(refine OpsT.go ?_;(conv=>arg 7;whnf))|refine Stp.pure rfl ?_|((with_reducible refine PutK.isSet ?_);refine PutK.st ?_)|refine PutK.mk' rfl ?_|refine Ops.nil ?_|((with_reducible refine Look.id ?_);refine Look.at ?_;try (conv=>arg 7;whnf))|((with_reducible refine Side.id ?_);first|refine Side.auto ?_)|((with_reducible refine Br.id ?_);first|(with_reducible first|refine br_false rfl ?_))|((with_reducible refine SemWp.id ?_);first|refine sem_seq ?_|refine sem_region rfl ?_|refine sem_cond rfl ?_|refine sem_exit ?_|refine sem_ret ?_)|((with_reducible refine qThen.id ?_);first|refine qThen.go ?_)|refine Stp.look ?_|refine Stp.call ?_|refine Stp.eff ?_|((with_reducible refine CallWp.id ?_);first|(refine callA cx (TT) ?_;(conv=>whnf))|(refine callX cx (SS) (fun g8 hg8=>?_);(conv=>whnf))|(refine callX cx (WE g8.j g8.e g8.a hg8.lt (fun _=>pMust_ne)) (fun g9 hg9=>?_);(conv=>whnf)))|((with_reducible refine BodyR.id ?_);first|refine BodyR.ret ?_)|((with_reducible refine ResG.id ?_);first|refine ResG.cell rfl ?_|refine ResG.nil ?_)|((with_reducible refine LoadIs.id ?_);first|refine LoadIs.ag rfl rfl rfl ?_)|((with_reducible refine Upd.id ?_);first|(refine Upd.lit rfl ?_;(conv=>whnf)))
    refine Fin.mk ⟨⟨⟨g2.v,g4.v,g5.v,acc,g8.v⟩,g9.j,g9.e,g9.a⟩,by refine Rel.bind hg1 ?_;refine Rel.bind hg2 ?_;refine Rel.bind hg3 ?_;refine Rel.bind hg4 ?_;refine Rel.bind RA ?_;refine Rel.bind hg6 ?_;refine Rel.bind RV ?_;refine Rel.bind hg8 ?_;refine Rel.bind hg9 ?_;exact Rel.ok hg9.lt _ _ _,by refine WeakerE.ret (Weaker.agg ?_);(repeat first|exact WeakerC.nil|refine WeakerC.cons ?_ rfl ?_|exact Weaker.refl _|exact Weaker.nil _|exact Weaker.tok _ _ _),Subp.tk⟩
   have ce':=cv.1
   subst ce'
   have cv:=cv.2
   have TT:=rtake_yes q l j 0 a' kVar wt hj cv
   have hj1:=wt.more j hj (isT_kind cv)
   cases g with
   |zero=>exact absurd rfl (ne rfl)
   |succ g=>
   rw [pVars_yes cv] at ne K
   by_cases k1:(tk l (j+1)).kind=1
   ·have RN:=nameR_yes wt (d:=0) a' hj1 k1
    have C:=rname_yes q l (j+1) 0 a' wt hj1 k1
    have hj2:=wt.more (j+1) hj1 (by omega)
    generalize (tk l (j+1)).text=t0 at *
    have WW:=WS (j+2) 0 a' hj2 (fun _=>pMust_ne)
    clear WS SX
    unfold rs at *
    repeat' first|((with_reducible refine DrawReg.id ?_);refine draw2' cx [(q,_)] [(r,_),(rv,_)] rfl [3] [1,5,7] [0,1,2,3,4,5,6,7] (by repeat first|exact HTake.nil|(apply HTake.cons;focus (repeat first|exact HPick.hit))) rfl (by decide +kernel) ?_)|(refine D2.quiet rfl rfl rfl rfl ?_;(conv=>arg 7;whnf))|(refine D2.one rfl rfl rfl rfl ?_;(conv=>arg 7;whnf))|(refine D2.two rfl rfl rfl rfl rfl ?_;(conv=>arg 7;whnf))|refine D2.nil rfl ?_|(refine TStp.callF rfl (C) ?_)|refine Ops.tag rfl ?_|(refine OpsT.go ?_;(conv=>arg 7;whnf))|refine Stp.pure rfl ?_|refine PutK.mk' rfl ?_|refine Ops.nil ?_|refine DStp.pure rfl ?_|refine PutD.mk' rfl ?_|((with_reducible refine Look.id ?_);refine Look.at ?_;try (conv=>arg 7;whnf))|((with_reducible refine Side.id ?_);first|refine Side.auto ?_)|((with_reducible refine Br.id ?_);first|(with_reducible first|refine br_true rfl ?_))|((with_reducible refine SemWp.id ?_);first|refine sem_seq ?_|refine sem_region rfl ?_|refine sem_cond rfl ?_|refine sem_block ?_|refine sem_skip ?_|refine sem_draw ?_)|((with_reducible refine qThen.id ?_);first|refine qThen.go ?_)|((with_reducible refine hinBlock.id ?_);first|refine hinBlock.go ?_)|((with_reducible refine hround.id ?_);first|refine hround.go ?_)|refine Stp.call ?_|((with_reducible refine CallWp.id ?_);first|(refine callA cx (TT) ?_;(conv=>whnf))|(refine callX cx (WW) (fun gw hgw=>?_);(conv=>whnf)))|refine TStp.look ?_|refine TStp.val ?_|refine TStp.upd [(_,.cells _ _),(_,_)] rfl rfl (by repeat first|exact HsetIs.hit) ?_|refine TStp.app [(_,_),(_,.tok _)] (by repeat first|exact HsetIs.hit|apply HsetIs.miss (by first|assumption)) ?_
    have e1:(acc ++ [t0]).map ss=acc.map ss ++ [ss t0]:=by simp
    have e2:(acc ++ [t0]).length=acc.length+1:=by simp
    refine Fin.mk ⟨(g,acc ++ [t0],gw.j,gw.e,gw.a),⟨hgw.lt,?_,fun h=>Rel.ne hgw (fun h=>Rel.ne RN (fun _=>ne rfl) h) h,fun G hG=>K G (Rel.from' rfl (i:=j+1) (Rel.bind RN (Rel.bind hgw hG)) (Nat.le_succ j))⟩,by show g < g+1;omega,Sub.cons rfl rfl (Sub.cons rfl rfl (Sub.cons rfl rfl (Sub.nil _))),?_⟩
    ·dsimp only
     rw [e2]
     have:=hgw.le
     omega
    ·dsimp only
     rw [e1,e2]
     exact Subp.tk
   ·have RN:=nameR_no (d:=0) a' hj1 k1
    have C:=rname_no q l (j+1) 0 a' hj1 k1
    generalize ((tk l (j+1)).pos:Int)=p0 at *
    have WW:=WS (j+1) 4 p0 hj1 (fun _=>pMust_ne)
    clear WS SX
    unfold rs at *
    repeat' first|((with_reducible refine DrawReg.id ?_);refine draw2' cx [(q,_)] [(r,_),(rv,_)] rfl [3] [1,5,7] [0,1,2,3,4,5,6,7] (by repeat first|exact HTake.nil|(apply HTake.cons;focus (repeat first|exact HPick.hit))) rfl (by decide +kernel) ?_)|(refine D2.quiet rfl rfl rfl rfl ?_;(conv=>arg 7;whnf))|(refine D2.one rfl rfl rfl rfl ?_;(conv=>arg 7;whnf))|(refine D2.two rfl rfl rfl rfl rfl ?_;(conv=>arg 7;whnf))|refine D2.nil rfl ?_|(refine TStp.callF rfl (C) ?_)|refine Ops.tag rfl ?_|(refine OpsT.go ?_;(conv=>arg 7;whnf))|refine Stp.pure rfl ?_|refine PutK.mk' rfl ?_|refine Ops.nil ?_|refine DStp.pure rfl ?_|refine PutD.mk' rfl ?_|((with_reducible refine Look.id ?_);refine Look.at ?_;try (conv=>arg 7;whnf))|((with_reducible refine Side.id ?_);first|refine Side.auto ?_)|((with_reducible refine Br.id ?_);first|(with_reducible first|refine br_true rfl ?_))|((with_reducible refine SemWp.id ?_);first|refine sem_seq ?_|refine sem_region rfl ?_|refine sem_cond rfl ?_|refine sem_block ?_|refine sem_skip ?_|refine sem_draw ?_)|((with_reducible refine qThen.id ?_);first|refine qThen.go ?_)|((with_reducible refine hinBlock.id ?_);first|refine hinBlock.go ?_)|((with_reducible refine hround.id ?_);first|refine hround.go ?_)|refine Stp.call ?_|((with_reducible refine CallWp.id ?_);first|(refine callA cx (TT) ?_;(conv=>whnf))|(refine callX cx (WW) (fun gw hgw=>?_);(conv=>whnf)))|refine TStp.look ?_|refine TStp.val ?_|refine TStp.upd [(_,.cells _ _),(_,_)] rfl rfl (by repeat first|exact HsetIs.hit) ?_|refine TStp.app [(_,_),(_,.tok _)] (by repeat first|exact HsetIs.hit|apply HsetIs.miss (by first|assumption)) ?_
    have e1:(acc ++ [noS]).map ss=acc.map ss ++ [ss noS]:=by simp
    have e2:(acc ++ [noS]).length=acc.length+1:=by simp
    refine Fin.mk ⟨(g,acc ++ [noS],gw.j,gw.e,gw.a),⟨hgw.lt,?_,fun h=>Rel.ne hgw (fun h=>Rel.ne RN (fun _=>ne rfl) h) h,fun G hG=>K G (Rel.from' rfl (i:=j+1) (Rel.bind RN (Rel.bind hgw hG)) (Nat.le_succ j))⟩,by show g < g+1;omega,Sub.cons rfl rfl (Sub.cons rfl rfl (Sub.cons rfl rfl (Sub.nil _))),?_⟩
    ·dsimp only
     rw [e2]
     have:=hgw.le
     omega
    ·dsimp only
     rw [e1,e2]
     exact Subp.tk
  ·have TT:=rtake_n q l g4.j 0 g4.e g4.a tArrow hg4.lt ce
   unfold rs at TT
   repeat' first|refine Ops.tag rfl ?_|(refine OpsT.go ?_;(conv=>arg 7;whnf))|refine Stp.pure rfl ?_|refine PutK.mk' rfl ?_|refine Ops.nil ?_|((with_reducible refine Side.id ?_);first|refine Side.auto ?_)|((with_reducible refine Br.id ?_);first|(with_reducible first|refine br_false rfl ?_))|((with_reducible refine SemWp.id ?_);first|refine sem_seq ?_|refine sem_region rfl ?_|refine sem_cond rfl ?_|refine sem_block ?_|refine sem_skip ?_)|((with_reducible refine qThen.id ?_);first|refine qThen.go ?_)|refine Stp.call ?_|((with_reducible refine CallWp.id ?_);first|(refine callA cx (TT) ?_;(conv=>whnf))|(refine callX cx (WB g4.j g4.e g4.a hg4.lt (fun _=>pMust_ne)) (fun g6 hg6=>?_);(conv=>whnf)))
   have RA:Rel l (pArrow l g4.j) g4.j g4.e g4.a ⟨noS,g4.j,g4.e,g4.a⟩:=Rel.no ce (Rel.ok hg4.lt _ _ _)
   clear NX WB
   have c6:=Rel.ne hg6 (fun h=>Rel.ne RA c4 h)
   refine sem_cellOwn cx _ 1 [ss g2.v,LSs' g4.v,ss noS] [.v (.slice none 0 0)] (by repeat first|exact HPick.hit|apply HPick.miss) ?_
   intro rv hrv
   simp only [keys,List.map_cons,List.map_nil,List.mem_cons,List.not_mem_nil,not_or,or_false,not_false_eq_true] at hrv
   (repeat (obtain ⟨_,hrv⟩:=hrv))
   simp only [List.cons_append,List.nil_append]
   have ne_q_r:q≠r:=(by first|assumption|(apply Ne.symm;assumption)|omega);have ne_q_r2:q≠r2:=(by first|assumption|(apply Ne.symm;assumption)|omega);have ne_q_rv:q≠rv:=(by first|assumption|(apply Ne.symm;assumption)|omega);have ne_r_q:r≠q:=(by first|assumption|(apply Ne.symm;assumption)|omega);have ne_r_r2:r≠r2:=(by first|assumption|(apply Ne.symm;assumption)|omega);have ne_r_rv:r≠rv:=(by first|assumption|(apply Ne.symm;assumption)|omega);have ne_r2_q:r2≠q:=(by first|assumption|(apply Ne.symm;assumption)|omega);have ne_r2_r:r2≠r:=(by first|assumption|(apply Ne.symm;assumption)|omega);have ne_r2_rv:r2≠rv:=(by first|assumption|(apply Ne.symm;assumption)|omega);have ne_rv_q:rv≠q:=(by first|assumption|(apply Ne.symm;assumption)|omega);have ne_rv_r:rv≠r:=(by first|assumption|(apply Ne.symm;assumption)|omega);have ne_rv_r2:rv≠r2:=(by first|assumption|(apply Ne.symm;assumption)|omega)
   have I0:VaI l (pVars l f [] 0 g6.j) g6.j g6.e g6.a (f,[],g6.j,g6.e,g6.a):=⟨hg6.lt,Nat.zero_le _,fun h=>bindR_ne0 (c6 h),fun G h=>h⟩
   refine sem_loop cx (ι:=Nat × List ByteArray × Nat × Int × Int) (VaI l (pVars l f [] 0 g6.j) g6.j g6.e g6.a) (fun x=>[(0,.sure,.ptr q 0),(2,.sure,.ptr r2 0),(3,.sure,.ptr r 0)]) (fun x=>[(q,.cells [LTk l,ii x.2.2.1,ii 0,ii x.2.2.2.1,ii x.2.2.2.2] 56),(r,.cells [ss g2.v,LSs' g4.v,ss noS,.list (.own rv 0) 1 (x.2.1.map ss),.v (.slice none 0 0)] 37),(rv,.tok x.2.1.length),(r2,.cells [.v (.string ⟨#[]⟩),.v (.slice none 0 0),.v (.string ⟨#[]⟩),.v (.slice none 0 0),.v (.slice none 0 0)] 37)]) (fun x=>x.1) (f,[],g6.j,g6.e,g6.a) I0 (by repeat' first|exact Sub.nil _|refine Sub.auto ?_) Subp.tk ?_
   clear I0
   rintro ⟨g,acc,j,e',a'⟩ hJ
   obtain ⟨hj,hla,ne,K⟩:=hJ
   dsimp only at hj hla ne K ⊢
   have ml:(acc.map ss).length=acc.length:=by simp
   by_cases cv:e'=0∧isT l j kVar=true
   rotate_left
   ·have TT:=rtake_n q l j 0 e' a' kVar hj cv
    have RV:=K ⟨acc,j,e',a'⟩ (by
     by_cases he:e'=0
     ·cases g with
      |zero=>exact absurd rfl (ne he)
      |succ g=>unfold pVars;exact Rel.no cv (Rel.ok hj _ _ _)
     ·exact ⟨hj,Nat.le_refl _,fun h=>absurd h he,fun _=>⟨rfl,rfl,rfl⟩⟩)
    have SS:=SX j e' a' hj (fun h=>⟨by omega,bindR_ne0 (Rel.ne RV c6 h)⟩)
    clear K ne WS SX
    unfold rs at *
    repeat' first|refine Ops.tag rfl ?_|(refine OpsT.go ?_;(conv=>arg 7;whnf))|refine Stp.pure rfl ?_|((with_reducible refine PutK.isSet ?_);refine PutK.st ?_)|refine PutK.mk' rfl ?_|refine Ops.nil ?_|((with_reducible refine Look.id ?_);refine Look.at ?_;try (conv=>arg 7;whnf))|((with_reducible refine Side.id ?_);first|refine Side.auto ?_)|((with_reducible refine Br.id ?_);first|(with_reducible first|refine br_false rfl ?_))|((with_reducible refine SemWp.id ?_);first|refine sem_seq ?_|refine sem_region rfl ?_|refine sem_cond rfl ?_|refine sem_exit ?_|refine sem_ret ?_)|((with_reducible refine qThen.id ?_);first|refine qThen.go ?_)|refine Stp.look ?_|refine Stp.call ?_|refine Stp.eff ?_|((with_reducible refine CallWp.id ?_);first|(refine callA cx (TT) ?_;(conv=>whnf))|(refine callX cx (SS) (fun g8 hg8=>?_);(conv=>whnf))|(refine callX cx (WE g8.j g8.e g8.a hg8.lt (fun _=>pMust_ne)) (fun g9 hg9=>?_);(conv=>whnf)))|((with_reducible refine BodyR.id ?_);first|refine BodyR.ret ?_)|((with_reducible refine ResG.id ?_);first|refine ResG.cell rfl ?_|refine ResG.nil ?_)|((with_reducible refine LoadIs.id ?_);first|refine LoadIs.ag rfl rfl rfl ?_)|((with_reducible refine Upd.id ?_);first|(refine Upd.lit rfl ?_;(conv=>whnf)))
    refine Fin.mk ⟨⟨⟨g2.v,g4.v,noS,acc,g8.v⟩,g9.j,g9.e,g9.a⟩,by refine Rel.bind hg1 ?_;refine Rel.bind hg2 ?_;refine Rel.bind hg3 ?_;refine Rel.bind hg4 ?_;refine Rel.bind RA ?_;refine Rel.bind hg6 ?_;refine Rel.bind RV ?_;refine Rel.bind hg8 ?_;refine Rel.bind hg9 ?_;exact Rel.ok hg9.lt _ _ _,by refine WeakerE.ret (Weaker.agg ?_);(repeat first|exact WeakerC.nil|refine WeakerC.cons ?_ rfl ?_|exact Weaker.refl _|exact Weaker.nil _|exact Weaker.tok _ _ _),Subp.tk⟩
   have ce':=cv.1
   subst ce'
   have cv:=cv.2
   have TT:=rtake_yes q l j 0 a' kVar wt hj cv
   have hj1:=wt.more j hj (isT_kind cv)
   cases g with
   |zero=>exact absurd rfl (ne rfl)
   |succ g=>
   rw [pVars_yes cv] at ne K
   by_cases k1:(tk l (j+1)).kind=1
   ·have RN:=nameR_yes wt (d:=0) a' hj1 k1
    have C:=rname_yes q l (j+1) 0 a' wt hj1 k1
    have hj2:=wt.more (j+1) hj1 (by omega)
    generalize (tk l (j+1)).text=t0 at *
    have WW:=WS (j+2) 0 a' hj2 (fun _=>pMust_ne)
    clear WS SX
    unfold rs at *
    repeat' first|((with_reducible refine DrawReg.id ?_);refine draw2' cx [(q,_)] [(r,_),(rv,_)] rfl [3] [1,5,7] [0,1,2,3,4,5,6,7] (by repeat first|exact HTake.nil|(apply HTake.cons;focus (repeat first|exact HPick.hit))) rfl (by decide +kernel) ?_)|(refine D2.quiet rfl rfl rfl rfl ?_;(conv=>arg 7;whnf))|(refine D2.one rfl rfl rfl rfl ?_;(conv=>arg 7;whnf))|(refine D2.two rfl rfl rfl rfl rfl ?_;(conv=>arg 7;whnf))|refine D2.nil rfl ?_|(refine TStp.callF rfl (C) ?_)|refine Ops.tag rfl ?_|(refine OpsT.go ?_;(conv=>arg 7;whnf))|refine Stp.pure rfl ?_|refine PutK.mk' rfl ?_|refine Ops.nil ?_|refine DStp.pure rfl ?_|refine PutD.mk' rfl ?_|((with_reducible refine Look.id ?_);refine Look.at ?_;try (conv=>arg 7;whnf))|((with_reducible refine Side.id ?_);first|refine Side.auto ?_)|((with_reducible refine Br.id ?_);first|(with_reducible first|refine br_true rfl ?_))|((with_reducible refine SemWp.id ?_);first|refine sem_seq ?_|refine sem_region rfl ?_|refine sem_cond rfl ?_|refine sem_block ?_|refine sem_skip ?_|refine sem_draw ?_)|((with_reducible refine qThen.id ?_);first|refine qThen.go ?_)|((with_reducible refine hinBlock.id ?_);first|refine hinBlock.go ?_)|((with_reducible refine hround.id ?_);first|refine hround.go ?_)|refine Stp.call ?_|((with_reducible refine CallWp.id ?_);first|(refine callA cx (TT) ?_;(conv=>whnf))|(refine callX cx (WW) (fun gw hgw=>?_);(conv=>whnf)))|refine TStp.look ?_|refine TStp.val ?_|refine TStp.upd [(_,.cells _ _),(_,_)] rfl rfl (by repeat first|exact HsetIs.hit) ?_|refine TStp.app [(_,_),(_,.tok _)] (by repeat first|exact HsetIs.hit|apply HsetIs.miss (by first|assumption)) ?_
    have e1:(acc ++ [t0]).map ss=acc.map ss ++ [ss t0]:=by simp
    have e2:(acc ++ [t0]).length=acc.length+1:=by simp
    refine Fin.mk ⟨(g,acc ++ [t0],gw.j,gw.e,gw.a),⟨hgw.lt,?_,fun h=>Rel.ne hgw (fun h=>Rel.ne RN (fun _=>ne rfl) h) h,fun G hG=>K G (Rel.from' rfl (i:=j+1) (Rel.bind RN (Rel.bind hgw hG)) (Nat.le_succ j))⟩,by show g < g+1;omega,Sub.cons rfl rfl (Sub.cons rfl rfl (Sub.cons rfl rfl (Sub.nil _))),?_⟩
    ·dsimp only
     rw [e2]
     have:=hgw.le
     omega
    ·dsimp only
     rw [e1,e2]
     exact Subp.tk
   ·have RN:=nameR_no (d:=0) a' hj1 k1
    have C:=rname_no q l (j+1) 0 a' hj1 k1
    generalize ((tk l (j+1)).pos:Int)=p0 at *
    have WW:=WS (j+1) 4 p0 hj1 (fun _=>pMust_ne)
    clear WS SX
    unfold rs at *
    repeat' first|((with_reducible refine DrawReg.id ?_);refine draw2' cx [(q,_)] [(r,_),(rv,_)] rfl [3] [1,5,7] [0,1,2,3,4,5,6,7] (by repeat first|exact HTake.nil|(apply HTake.cons;focus (repeat first|exact HPick.hit))) rfl (by decide +kernel) ?_)|(refine D2.quiet rfl rfl rfl rfl ?_;(conv=>arg 7;whnf))|(refine D2.one rfl rfl rfl rfl ?_;(conv=>arg 7;whnf))|(refine D2.two rfl rfl rfl rfl rfl ?_;(conv=>arg 7;whnf))|refine D2.nil rfl ?_|(refine TStp.callF rfl (C) ?_)|refine Ops.tag rfl ?_|(refine OpsT.go ?_;(conv=>arg 7;whnf))|refine Stp.pure rfl ?_|refine PutK.mk' rfl ?_|refine Ops.nil ?_|refine DStp.pure rfl ?_|refine PutD.mk' rfl ?_|((with_reducible refine Look.id ?_);refine Look.at ?_;try (conv=>arg 7;whnf))|((with_reducible refine Side.id ?_);first|refine Side.auto ?_)|((with_reducible refine Br.id ?_);first|(with_reducible first|refine br_true rfl ?_))|((with_reducible refine SemWp.id ?_);first|refine sem_seq ?_|refine sem_region rfl ?_|refine sem_cond rfl ?_|refine sem_block ?_|refine sem_skip ?_|refine sem_draw ?_)|((with_reducible refine qThen.id ?_);first|refine qThen.go ?_)|((with_reducible refine hinBlock.id ?_);first|refine hinBlock.go ?_)|((with_reducible refine hround.id ?_);first|refine hround.go ?_)|refine Stp.call ?_|((with_reducible refine CallWp.id ?_);first|(refine callA cx (TT) ?_;(conv=>whnf))|(refine callX cx (WW) (fun gw hgw=>?_);(conv=>whnf)))|refine TStp.look ?_|refine TStp.val ?_|refine TStp.upd [(_,.cells _ _),(_,_)] rfl rfl (by repeat first|exact HsetIs.hit) ?_|refine TStp.app [(_,_),(_,.tok _)] (by repeat first|exact HsetIs.hit|apply HsetIs.miss (by first|assumption)) ?_
    have e1:(acc ++ [noS]).map ss=acc.map ss ++ [ss noS]:=by simp
    have e2:(acc ++ [noS]).length=acc.length+1:=by simp
    refine Fin.mk ⟨(g,acc ++ [noS],gw.j,gw.e,gw.a),⟨hgw.lt,?_,fun h=>Rel.ne hgw (fun h=>Rel.ne RN (fun _=>ne rfl) h) h,fun G hG=>K G (Rel.from' rfl (i:=j+1) (Rel.bind RN (Rel.bind hgw hG)) (Nat.le_succ j))⟩,by show g < g+1;omega,Sub.cons rfl rfl (Sub.cons rfl rfl (Sub.cons rfl rfl (Sub.nil _))),?_⟩
    ·dsimp only
     rw [e2]
     have:=hgw.le
     omega
    ·dsimp only
     rw [e1,e2]
     exact Subp.tk
 exact HCalls.toX key
end Go.Proofs.Hk

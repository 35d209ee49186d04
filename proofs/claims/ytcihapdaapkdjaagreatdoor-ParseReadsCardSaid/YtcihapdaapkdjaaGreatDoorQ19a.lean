import Derived.Test.YtcihapdaapkdjaaGreatDoorQ1
import Derived.Test.YtcihapdaapkdjaaGreatDoorH30
import Derived.Test.YtcihapdaapkdjaaGreatDoorH41
import Derived.Test.YtcihapdaapkdjaaGreatDoorQ18t
import Derived.Test.YtcihapdaapkdjaaGreatDoorP2
import Derived.Test.YtcihapdaapkdjaaGreatDoorP5
set_option linter.unusedSimpArgs false
set_option linter.unusedVariables false
set_option maxRecDepth 4000
namespace Go.Proofs.Hk
open Go Go.Proofs
/-- The deferred closure of Prog. -/
theorem pc_ret (p1 p2 p3 p4:Nat) (s:HS):DRet cx 10 [.ptr p1 0,.ptr p2 0,.ptr p3 0,.ptr p4 0] s s:=by
 refine dret_rec cx (fn:=Tryz.f10) rfl rfl rfl rfl rfl rfl rfl rfl rfl rfl rfl rfl rfl
theorem pc_pan (q p1 p2 p3 p4:Nat) (l:List Tk) (i:Nat) (d b:Int) (hi:i < l.length) (x2 x3 x4:HV) (n1:q≠p1) (n2:q≠p2) (n3:q≠p3) (n4:q≠p4) (n5:p1≠p2) (n6:p1≠p3) (n7:p1≠p4) (n8:p2≠p3) (n9:p2≠p4) (n10:p3≠p4) :
  DPan cx 10 [.ptr p1 0,.ptr p2 0,.ptr p3 0,.ptr p4 0] failV [(p2,.cells [x2] 25),(p3,.cells [x3] 26),(p4,.cells [x4] 3),(p1,.cells [.ptr q 0] 45),(q,rd l i d b)]
   [(p2,.cells [.v (.slice none 0 0)] 25),(p3,.cells [ii b] 26),(p4,.cells [ii (tk l i).pos] 3),(p1,.cells [.ptr q 0] 45),(q,rd l i d b)]:=by
 have N:=now_spec q l i d b hi
 unfold rd at *
 refine dpan_rec cx (fn:=Tryz.f10) rfl rfl rfl rfl rfl rfl rfl rfl rfl rfl rfl rfl rfl ?_
 repeat' first|(refine drawE' cx [(p2,_),(p3,_),(p4,_)] [(p1,_),(q,_)] [8,9,10] (List.Perm.refl _) (by decide +kernel) rfl ?_)|(refine DOps.cons rfl rfl ?_;(conv=>arg 7;whnf))|refine DStp.pure rfl ?_|refine PutD.mk' rfl ?_|refine DOps.nil rfl ?_|((with_reducible refine Look.id ?_);refine Look.at ?_;try (conv=>arg 7;whnf))|((with_reducible refine Side.id ?_);first|refine Side.auto ?_)|((with_reducible refine SemWp.id ?_);first|refine sem_draw ?_)|refine DStp.valS ?_|refine DStp.look ?_|refine DStp.call ?_|((with_reducible refine QAsk.id ?_);first|(refine askS (N) (by repeat first|exact HTake.nil|(apply HTake.cons;focus (repeat first|exact HPick.hit|apply HPick.miss))) ?_ ?_;focus (intro h;first|exact rfl)))|(refine DOps.turn rfl rfl rfl ?_;(conv=>arg 7;whnf))|refine TStp.look ?_|refine TStp.upd [(p2,_),(p3,.cells _ _),(p4,_)] rfl rfl (by repeat first|exact HsetIs.hit|apply HsetIs.miss (by first|assumption)) ?_
 exact Fin.mk ⟨rfl,Subp.of_eq rfl⟩
end Go.Proofs.Hk

set_option linter.unusedSimpArgs false
set_option linter.unusedVariables false
set_option maxRecDepth 4000
namespace Go.Proofs.Hk
open Go Go.Proofs
/-- What Prog comes to: procedures, error, place. -/
def progR (s:ByteArray):List PD × Int × Int:=
 match lexR s with
 |.error (e,p)=>([],e,p)
 |.ok l=>match pProg l (16 * l.length+4) [] 0 with
  |some (.ok (ps,_))=>(ps,0,0)
  |some (.error (c,j,_))=>([],c,(tk l j).pos)
  |none=>([],0,0)
def progV (r:List PD × Int × Int):HV:=.tup [.agg [LPDs r.1],ii r.2.1,ii r.2.2]
theorem prog_le (s:ByteArray) (e:Int) (p:Nat) (h:lexR s = .error (e,p)):Pur cx 5 [ss s] (progV ([],e,p)):=by
 have L:=Lex_spec s
 rw [h] at L
 have h0:¬ e=0:=lexR_ne0 h
 have L:Pur cx 9 [ss s] (.tup [.list .no 3 [],ii e,ii p]):=L
 refine Pur.ofW (sem_callsD cx (fn:=Tryz.f5) rfl rfl rfl rfl ?_)
 repeat' first|((with_reducible refine DrawReg.id ?_);refine drawN cx [[(_,.cells _ 3)],[(_,.cells _ 26)],[(_,.cells _ 25)]] rfl [[2,5],[1,4],[3]] [] [0,1,2,3,4,5] (by repeat first|exact HTake.nil|(apply HTake.cons;focus (repeat first|exact HPick.hit))) rfl (by decide +kernel) ?_)|(refine DN.quiet rfl rfl rfl rfl ?_;(conv=>arg 7;whnf))|(refine DN.turn rfl rfl rfl rfl rfl ?_;(conv=>arg 7;whnf))|(refine DN.nilF ?_;(conv=>whnf))|refine Ops.tag rfl ?_|(refine OpsT.go ?_;(conv=>arg 7;whnf))|((with_reducible refine Stp.isNe ?_);first|refine Stp.neT ?_)|refine Stp.pure rfl ?_|((with_reducible refine PutK.isSet ?_);refine PutK.st ?_)|refine PutK.mk' rfl ?_|refine Ops.nil ?_|refine DStp.pure rfl ?_|refine PutD.mk' rfl ?_|((with_reducible refine Look.id ?_);refine Look.at ?_;try (conv=>arg 7;whnf))|((with_reducible refine Side.id ?_);first|refine Side.auto ?_)|((with_reducible refine Br.id ?_);first|(with_reducible first|refine br_true rfl ?_))|((with_reducible refine SemWp.id ?_);first|refine sem_seq ?_|refine sem_region rfl ?_|refine sem_cond rfl ?_|refine sem_ret ?_|refine sem_draw ?_)|((with_reducible refine qThen.id ?_);first|refine qThen.go ?_)|refine Stp.valS ?_|refine Stp.look ?_|refine Stp.call ?_|refine Stp.eff ?_|((with_reducible refine CallWp.id ?_);first|refine Pur.call (L) ?_)|(refine newN (fun r hr=>?_);simp only [keys,List.nil_append,List.cons_append,List.map_cons,List.map_nil,List.mem_cons,List.not_mem_nil,not_or,or_false,not_false_eq_true] at hr;(repeat (obtain ⟨_,hr⟩:=hr)))|((with_reducible refine SeqD.id ?_);first|refine SeqD.go ?_|refine SeqD.ret ?_)|(with_reducible refine semD_seq cx ?_)|((with_reducible refine ResG.id ?_);first|refine ResG.cell rfl ?_|refine ResG.nil ?_)|((with_reducible refine LoadIs.id ?_);first|refine LoadIs.ag rfl rfl rfl ?_|refine LoadIs.one (by repeat first|exact HGet.hit|apply HGet.miss (by first|assumption)) rfl rfl rfl rfl ?_)|((with_reducible refine Upd.id ?_);first|(refine Upd.lit rfl ?_;(conv=>whnf)))|refine TStp.look ?_|refine TStp.val ?_|refine TStp.upd [(_,.cells _ _)] rfl rfl (by repeat first|exact HsetIs.hit) ?_
 exact Fin.mk ⟨_,rfl,Weaker.tup (.cons (Weaker.agg (.cons (Weaker.nil _) rfl .nil)) (.cons (Weaker.refl _) (.cons (Weaker.refl _) .nil)))⟩
def progO (l:List Tk) (res:Except (Int × Nat × Int) (List PD × Nat)):List PD × Int × Int:=
 match res with
 |.ok (ps,_)=>(ps,0,0)
 |.error (c,j,_)=>([],c,(tk l j).pos)
/-- What is left behind so many procedures. -/
def pMore (l:List Tk) (g:Nat) (acc:List PD) (j:Nat):Res' (List PD):=if (tk l j).kind=0 then okR acc j else pProg l g acc j
set_option maxHeartbeats 8000000 in
theorem prog_er0 (s:ByteArray) (l:List Tk) (h:lexR s = .ok l) (f:Nat) (c:Int) (j:Nat) (d:Int) (hp:pProc l f 0=some (.error (c,j,d))):Pur cx 5 [ss s] (progV ([],c,(tk l j).pos)):=by
 have L:=Lex_spec s
 rw [h] at L
 have wn:=lexR_wf h
 have wf:=wn.toWfT
 have wl:=wf.len
 have hi:=lexR_pos h
 have hj:=(pProc_err wf hi _ _ _ hp).1
 have L:Pur cx 9 [ss s] (.tup [LTk l,ii 0,ii 0]):=L
 have C:=fun q=>(proc_lvl l wn q 0 hi f _ hp:To 12 [.ptr q 0] [(q,rd l 0 0 0)] (.pan failV) [(q,rd l j d c)])
 unfold rd at C
 refine Pur.ofW (sem_callsD cx (fn:=Tryz.f5) rfl rfl rfl rfl ?_)
 repeat' first|(refine semD_defer cx 21 rfl rfl rfl rfl rfl rfl rfl rfl rfl rfl ?_)|(refine sem_cellOwn cx _ 5 [] [] (by repeat first|exact HPick.hit|apply HPick.miss) ?_;intro rt hrt;simp only [keys,List.map_cons,List.map_nil,List.mem_cons,List.not_mem_nil,not_or,or_false,not_false_eq_true] at hrt;(repeat (obtain ⟨_,hrt⟩:=hrt));simp only [List.cons_append,List.nil_append])|((with_reducible refine DrawReg.id ?_);refine drawPanC cx 3 [4,5,6,7] [0,1,2] [2,3,4] (C _) (by repeat first|exact HTake.nil|(apply HTake.cons;focus (repeat first|exact HPick.hit|apply HPick.miss))) rfl (by decide +kernel) (by decide +kernel) rfl rfl ?_ ?_;rotate_left;(conv=>whnf);rotate_left)|(refine DOpsL.cons rfl rfl ?_;(conv=>arg 7;whnf))|(refine DOpsL.nil ⟨rfl,_,rfl,rfl⟩)|refine Ops.tag rfl ?_|(refine OpsT.go ?_;(conv=>arg 7;whnf))|((with_reducible refine Stp.isNe ?_);first|refine Stp.neF ?_)|refine Stp.pure rfl ?_|((with_reducible refine PutK.isSet ?_);refine PutK.st ?_)|refine PutK.mk' rfl ?_|refine Ops.nil ?_|refine DStp.pure rfl ?_|((with_reducible refine Look.id ?_);refine Look.at ?_;try (conv=>arg 7;whnf))|((with_reducible refine Side.id ?_);first|refine Side.auto ?_)|((with_reducible refine Br.id ?_);first|(with_reducible first|refine br_false rfl ?_))|((with_reducible refine SemWp.id ?_);first|refine sem_seq ?_|refine sem_region rfl ?_|refine sem_cond rfl ?_|refine sem_skip ?_|refine sem_draw ?_)|((with_reducible refine qThen.id ?_);first|refine qThen.go ?_)|refine Stp.valS ?_|refine Stp.look ?_|refine Stp.call ?_|refine Stp.eff ?_|refine DStp.valS ?_|refine DStp.look ?_|((with_reducible refine CallWp.id ?_);first|refine Pur.call (L) ?_)|(refine newN (fun r hr=>?_);simp only [keys,List.nil_append,List.cons_append,List.map_cons,List.map_nil,List.mem_cons,List.not_mem_nil,not_or,or_false,not_false_eq_true] at hr;(repeat (obtain ⟨_,hr⟩:=hr)))|((with_reducible refine SeqD.id ?_);first|refine SeqD.go ?_)|(with_reducible refine semD_seq cx ?_)|((with_reducible refine Upd.id ?_);first|(refine Upd.lit rfl ?_;(conv=>whnf)))
 rename_i p2 p3 _ p4 _ _ _ _ q _ _ _ _ _ _ _ _
 refine EndD.pan _ (DPan.frame (pc_pan q r p2 p3 p4 l j d c hj _ _ _ (by first|assumption|(apply Ne.symm;assumption)|omega) (by first|assumption|(apply Ne.symm;assumption)|omega) (by first|assumption|(apply Ne.symm;assumption)|omega) (by first|assumption|(apply Ne.symm;assumption)|omega) (by first|assumption|(apply Ne.symm;assumption)|omega) (by first|assumption|(apply Ne.symm;assumption)|omega) (by first|assumption|(apply Ne.symm;assumption)|omega) (by first|assumption|(apply Ne.symm;assumption)|omega) (by first|assumption|(apply Ne.symm;assumption)|omega) (by first|assumption|(apply Ne.symm;assumption)|omega)) (by repeat first|exact HTake.nil|(apply HTake.cons;focus (repeat first|exact HPick.hit|apply HPick.miss)))) ?_
 repeat' first|((with_reducible refine ResG.id ?_);first|refine ResG.cell rfl ?_|refine ResG.nil ?_)|((with_reducible refine LoadIs.id ?_);first|refine LoadIs.agg (by repeat first|exact HGet.hit|apply HGet.miss (by first|(apply Ne.symm;assumption))) rfl rfl rfl ?_|refine LoadIs.one (by repeat first|exact HGet.hit|apply HGet.miss (by first|(apply Ne.symm;assumption))) rfl rfl rfl rfl ?_)
 exact Fin.mk ⟨_,rfl,Weaker.tup (.cons (Weaker.agg (.cons (Weaker.nil _) rfl .nil)) (.cons (Weaker.refl _) (.cons (Weaker.refl _) .nil)))⟩
theorem pMore_succ (l:List Tk) (g:Nat) (acc:List PD) (j:Nat):pProg l (g+1) acc j=bindR (pProc l g j) fun p m=>pMore l g (acc ++ [p]) m:=rfl
set_option maxHeartbeats 8000000 in
theorem prog_ok0 (s:ByteArray) (l:List Tk) (h:lexR s = .ok l) (f:Nat) (p0:PD) (j0:Nat) (hp:pProc l f 0=some (.ok (p0,j0))) (res) (hm:pMore l f [p0] j0=some res):Pur cx 5 [ss s] (progV (progO l res)):=by
 have L:=Lex_spec s
 rw [h] at L
 have wn:=lexR_wf h
 have wf:=wn.toWfT
 have wl:=wf.len
 have hi:=lexR_pos h
 have hf0:=pProc_facts wf hi hp
 have L:Pur cx 9 [ss s] (.tup [LTk l,ii 0,ii 0]):=L
 have C:=fun q=>(proc_lvl l wn q 0 hi f _ hp:To 12 [.ptr q 0] [(q,rd l 0 0 0)] (.ret (encPD p0)) [(q,rd l j0 0 0)])
 have PC:=fun q i hi g res h=>proc_lvl l wn q i hi g res h
 have NW:=fun q i hi=>now_spec q l i 0 0 hi
 clear L
 have L:Pur cx 9 [ss s] (.tup [LTk l,ii 0,ii 0]):=by have:=Lex_spec s;rw [h] at this;exact this
 refine Pur.ofW (sem_callsD cx (fn:=Tryz.f5) rfl rfl rfl rfl ?_)
 unfold rd at *
 repeat' first|(refine semD_defer cx 21 rfl rfl rfl rfl rfl rfl rfl rfl rfl rfl ?_)|(refine sem_cellOwn cx _ 5 [] [] (by repeat first|exact HPick.hit|apply HPick.miss) ?_;intro rt hrt;simp only [keys,List.map_cons,List.map_nil,List.mem_cons,List.not_mem_nil,not_or,or_false,not_false_eq_true] at hrt;(repeat (obtain ⟨_,hrt⟩:=hrt));simp only [List.cons_append,List.nil_append])|((with_reducible refine DrawReg.id ?_);refine draw2' cx [(_,.cells _ 47)] [(_,.cells _ 25),(_,.tok _)] rfl [3] [1,5,7] [0,1,2,3,4,5,6,7] (by repeat first|exact HTake.nil|(apply HTake.cons;focus (repeat first|exact HPick.hit|apply HPick.miss))) rfl (by decide +kernel) ?_)|(refine D2.quiet rfl rfl rfl rfl ?_;(conv=>arg 7;whnf))|(refine D2.one rfl rfl rfl rfl ?_;(conv=>arg 7;whnf))|(refine D2.two rfl rfl rfl rfl rfl ?_;(conv=>arg 7;whnf))|refine D2.nil rfl ?_|(refine TStp.callF rfl (C _) ?_)|refine Ops.tag rfl ?_|(refine OpsT.go ?_;(conv=>arg 7;whnf))|((with_reducible refine Stp.isNe ?_);first|refine Stp.neF ?_)|refine Stp.pure rfl ?_|((with_reducible refine PutK.isSet ?_);refine PutK.st ?_)|refine PutK.mk' rfl ?_|refine Ops.nil ?_|refine DStp.pure rfl ?_|refine PutD.mk' rfl ?_|((with_reducible refine Look.id ?_);refine Look.at ?_;try (conv=>arg 7;whnf))|((with_reducible refine Side.id ?_);first|refine Side.auto ?_)|((with_reducible refine Br.id ?_);first|(with_reducible first|refine br_false rfl ?_))|((with_reducible refine SemWp.id ?_);first|refine sem_seq ?_|refine sem_region rfl ?_|refine sem_cond rfl ?_|refine sem_block ?_|refine sem_skip ?_|refine sem_draw ?_)|((with_reducible refine qThen.id ?_);first|refine qThen.go ?_)|refine Stp.valS ?_|refine Stp.look ?_|refine Stp.call ?_|refine Stp.eff ?_|refine DStp.valS ?_|refine DStp.look ?_|((with_reducible refine CallWp.id ?_);first|refine Pur.call (L) ?_)|(refine newN (fun r hr=>?_);simp only [keys,List.nil_append,List.cons_append,List.map_cons,List.map_nil,List.mem_cons,List.not_mem_nil,not_or,or_false,not_false_eq_true] at hr;(repeat (obtain ⟨_,hr⟩:=hr)))|((with_reducible refine SeqD.id ?_);first|refine SeqD.go ?_)|(with_reducible refine semD_seq cx ?_)|((with_reducible refine Upd.id ?_);first|(refine Upd.lit rfl ?_;(conv=>whnf)))|refine TStp.look ?_|refine TStp.val ?_|refine TStp.upd [(_,.cells _ _),(_,_)] rfl rfl (by repeat first|exact HsetIs.hit) ?_|refine TStp.app [(_,_),(_,.tok _)] (by repeat first|exact HsetIs.hit|apply HsetIs.miss (by first|(apply Ne.symm;assumption))) ?_
 rename_i p2 p3 _ p4 _ _ _ _ q _ _ _ _ _ _ _ _
 clear C hp
 have ne_q_r:q≠r:=(by first|assumption|(apply Ne.symm;assumption)|omega);have ne_q_p2:q≠p2:=(by first|assumption|(apply Ne.symm;assumption)|omega);have ne_q_p3:q≠p3:=(by first|assumption|(apply Ne.symm;assumption)|omega);have ne_q_p4:q≠p4:=(by first|assumption|(apply Ne.symm;assumption)|omega);have ne_q_rt:q≠rt:=(by first|assumption|(apply Ne.symm;assumption)|omega);have ne_r_q:r≠q:=(by first|assumption|(apply Ne.symm;assumption)|omega);have ne_r_p2:r≠p2:=(by first|assumption|(apply Ne.symm;assumption)|omega);have ne_r_p3:r≠p3:=(by first|assumption|(apply Ne.symm;assumption)|omega);have ne_r_p4:r≠p4:=(by first|assumption|(apply Ne.symm;assumption)|omega);have ne_r_rt:r≠rt:=(by first|assumption|(apply Ne.symm;assumption)|omega);have ne_p2_q:p2≠q:=(by first|assumption|(apply Ne.symm;assumption)|omega);have ne_p2_r:p2≠r:=(by first|assumption|(apply Ne.symm;assumption)|omega);have ne_p2_p3:p2≠p3:=(by first|assumption|(apply Ne.symm;assumption)|omega);have ne_p2_p4:p2≠p4:=(by first|assumption|(apply Ne.symm;assumption)|omega);have ne_p2_rt:p2≠rt:=(by first|assumption|(apply Ne.symm;assumption)|omega);have ne_p3_q:p3≠q:=(by first|assumption|(apply Ne.symm;assumption)|omega);have ne_p3_r:p3≠r:=(by first|assumption|(apply Ne.symm;assumption)|omega);have ne_p3_p2:p3≠p2:=(by first|assumption|(apply Ne.symm;assumption)|omega);have ne_p3_p4:p3≠p4:=(by first|assumption|(apply Ne.symm;assumption)|omega);have ne_p3_rt:p3≠rt:=(by first|assumption|(apply Ne.symm;assumption)|omega);have ne_p4_q:p4≠q:=(by first|assumption|(apply Ne.symm;assumption)|omega);have ne_p4_r:p4≠r:=(by first|assumption|(apply Ne.symm;assumption)|omega);have ne_p4_p2:p4≠p2:=(by first|assumption|(apply Ne.symm;assumption)|omega);have ne_p4_p3:p4≠p3:=(by first|assumption|(apply Ne.symm;assumption)|omega);have ne_p4_rt:p4≠rt:=(by first|assumption|(apply Ne.symm;assumption)|omega);have ne_rt_q:rt≠q:=(by first|assumption|(apply Ne.symm;assumption)|omega);have ne_rt_r:rt≠r:=(by first|assumption|(apply Ne.symm;assumption)|omega);have ne_rt_p2:rt≠p2:=(by first|assumption|(apply Ne.symm;assumption)|omega);have ne_rt_p3:rt≠p3:=(by first|assumption|(apply Ne.symm;assumption)|omega);have ne_rt_p4:rt≠p4:=(by first|assumption|(apply Ne.symm;assumption)|omega)
 refine sem_loop4 cx (fun g acc j (_:Unit)=>j < l.length∧acc.length≤j∧pMore l g acc j=some res) (fun g acc j _=>[(2,.sure,.ptr p2 0),(3,.sure,.ptr p3 0),(4,.sure,.ptr p4 0),(6,.sure,.ptr r 0)]) (fun g acc j _=>[(q,.cells [LTk l,ii j,ii 0,ii 0] 47),(r,.cells [.ptr q 0] 45),(p2,.cells [.list (.own rt 0) 5 (acc.map encPD)] 25),(rt,.tok acc.length),(p3,.cells [ii 0] 26),(p4,.cells [ii 0] 3)]) (fun g=>g) f [p0] j0 () ⟨hf0.1,by simp only [List.length_singleton];omega,hm⟩ (Sub.cons rfl rfl (Sub.cons rfl rfl (Sub.cons rfl rfl (Sub.cons rfl rfl (Sub.nil _))))) Subp.tk ?_
 clear hm
 rintro g acc j _ ⟨hj,hla,hm⟩
 have ml:(acc.map encPD).length=acc.length:=by simp
 have N:=NW q j hj
 unfold pMore at hm
 by_cases k0:(tk l j).kind=0
 ·rw [if_pos k0] at hm
  cases hm
  rw [k0] at N
  clear PC NW
  repeat' first|(refine EndD.ret _ (pc_ret r p2 p3 p4 _) ?_)|refine Ops.tag rfl ?_|(refine OpsT.go ?_;(conv=>arg 7;whnf))|((with_reducible refine Stp.isNe ?_);first|refine Stp.neF ?_)|refine Stp.pure rfl ?_|((with_reducible refine PutK.isSet ?_);refine PutK.st ?_)|refine PutK.mk' rfl ?_|refine Ops.nil ?_|((with_reducible refine Look.id ?_);refine Look.at ?_;try (conv=>arg 7;whnf))|((with_reducible refine Side.id ?_);first|refine Side.auto ?_)|((with_reducible refine Br.id ?_);first|(with_reducible first|refine br_false rfl ?_))|((with_reducible refine SemWp.id ?_);first|refine sem_seq ?_|refine sem_region rfl ?_|refine sem_cond rfl ?_|refine sem_exit ?_|refine sem_ret ?_)|((with_reducible refine qThen.id ?_);first|refine qThen.go ?_)|refine Stp.valS ?_|refine Stp.look ?_|refine Stp.call ?_|refine Stp.eff ?_|((with_reducible refine CallWp.id ?_);first|(refine callA cx (N) ?_;(conv=>whnf)))|((with_reducible refine ResG.id ?_);first|refine ResG.cell rfl ?_|refine ResG.nil ?_)|((with_reducible refine LoadIs.id ?_);first|refine LoadIs.ag rfl rfl rfl ?_|refine LoadIs.one (by repeat first|exact HGet.hit|apply HGet.miss (by first|assumption)) rfl rfl rfl rfl ?_)|((with_reducible refine Upd.id ?_);first|(refine Upd.lit rfl ?_;(conv=>whnf)))
  exact Fin.mk ⟨_,rfl,Weaker.tup (.cons (Weaker.agg (.cons (Weaker.tok _ _ _) rfl .nil)) (.cons (Weaker.refl _) (.cons (Weaker.refl _) .nil)))⟩
 ·rw [if_neg k0] at hm
  cases g with
  |zero=>cases hm
  |succ g=>
  rw [pMore_succ] at hm
  cases hp:pProc l g j with
  |none=>rw [hp] at hm;cases hm
  |some r1=>
  rw [hp] at hm
  have C:=PC q j hj g r1 hp
  generalize (tk l j).kind=kk at N k0
  generalize (tk l j).text=tt at N
  generalize (tk l j).pos=pp at N
  cases r1 with
  |error x=>
   obtain ⟨c2,j2,d2⟩:=x
   cases hm
   have hj2:=(pProc_err wf hj _ _ _ hp).1
   have C:To 12 [.ptr q 0] [(q,.cells [LTk l,ii j,ii 0,ii 0] 47)] (.pan failV) [(q,.cells [LTk l,ii j2,ii d2,ii c2] 47)]:=C
   clear PC NW hp
   repeat' first|((with_reducible refine DrawReg.id ?_);refine drawPanC cx 3 [4,5,6,7] [0,1,2] [2,3,4] (C) (by repeat first|exact HTake.nil|(apply HTake.cons;focus (repeat first|exact HPick.hit))) rfl (by decide +kernel) (by decide +kernel) rfl rfl ?_ ?_;rotate_left;(conv=>whnf);rotate_left)|(refine DOpsL.cons rfl rfl ?_;(conv=>arg 7;whnf))|(refine DOpsL.nil ⟨rfl,_,rfl,rfl⟩)|refine Ops.tag rfl ?_|(refine OpsT.go ?_;(conv=>arg 7;whnf))|((with_reducible refine Stp.isNe ?_);first|refine Stp.neT ?_)|refine Stp.pure rfl ?_|refine PutK.mk' rfl ?_|refine Ops.nil ?_|refine DStp.pure rfl ?_|((with_reducible refine Look.id ?_);refine Look.at ?_;try (conv=>arg 7;whnf))|((with_reducible refine Side.id ?_);first|refine Side.auto ?_)|((with_reducible refine Br.id ?_);first|(with_reducible first|refine br_true rfl ?_))|((with_reducible refine SemWp.id ?_);first|refine sem_seq ?_|refine sem_region rfl ?_|refine sem_cond rfl ?_|refine sem_block ?_|refine sem_skip ?_|refine sem_draw ?_)|((with_reducible refine qThen.id ?_);first|refine qThen.go ?_)|refine Stp.valS ?_|refine Stp.look ?_|refine Stp.call ?_|refine DStp.valS ?_|refine DStp.look ?_|((with_reducible refine CallWp.id ?_);first|(refine callA cx (N) ?_;(conv=>whnf)))
   refine EndD.pan _ (DPan.frame (pc_pan q r p2 p3 p4 l j2 d2 c2 hj2 _ _ _ (by first|assumption|(apply Ne.symm;assumption)|omega) (by first|assumption|(apply Ne.symm;assumption)|omega) (by first|assumption|(apply Ne.symm;assumption)|omega) (by first|assumption|(apply Ne.symm;assumption)|omega) (by first|assumption|(apply Ne.symm;assumption)|omega) (by first|assumption|(apply Ne.symm;assumption)|omega) (by first|assumption|(apply Ne.symm;assumption)|omega) (by first|assumption|(apply Ne.symm;assumption)|omega) (by first|assumption|(apply Ne.symm;assumption)|omega) (by first|assumption|(apply Ne.symm;assumption)|omega)) (by repeat first|exact HTake.nil|(apply HTake.cons;focus (repeat first|exact HPick.hit|apply HPick.miss)))) ?_
   repeat' first|((with_reducible refine ResG.id ?_);first|refine ResG.cell rfl ?_|refine ResG.nil ?_)|((with_reducible refine LoadIs.id ?_);first|refine LoadIs.ag rfl rfl rfl ?_|refine LoadIs.one (by repeat first|exact HGet.hit|apply HGet.miss (by first|assumption)) rfl rfl rfl rfl ?_)
   exact Fin.mk ⟨_,rfl,Weaker.tup (.cons (Weaker.agg (.cons (Weaker.nil _) rfl .nil)) (.cons (Weaker.refl _) (.cons (Weaker.refl _) .nil)))⟩
  |ok x=>
   obtain ⟨x,m⟩:=x
   have hm:pMore l g (acc ++ [x]) m=some res:=hm
   have C:To 12 [.ptr q 0] [(q,.cells [LTk l,ii j,ii 0,ii 0] 47)] (.ret (encPD x)) [(q,.cells [LTk l,ii m,ii 0,ii 0] 47)]:=C
   have hf1:=pProc_facts wf hj hp
   clear PC NW hp
   repeat' first|((with_reducible refine DrawReg.id ?_);refine draw2' cx [(q,_)] [(p2,_),(rt,_)] rfl [3] [1,5,7] [0,1,2,3,4,5,6,7] (by repeat first|exact HTake.nil|(apply HTake.cons;focus (repeat first|exact HPick.hit|apply HPick.miss))) rfl (by decide +kernel) ?_)|(refine D2.quiet rfl rfl rfl rfl ?_;(conv=>arg 7;whnf))|(refine D2.one rfl rfl rfl rfl ?_;(conv=>arg 7;whnf))|(refine D2.two rfl rfl rfl rfl rfl ?_;(conv=>arg 7;whnf))|refine D2.nil rfl ?_|(refine TStp.callF rfl (C) ?_)|refine Ops.tag rfl ?_|(refine OpsT.go ?_;(conv=>arg 7;whnf))|((with_reducible refine Stp.isNe ?_);first|refine Stp.neT ?_)|refine Stp.pure rfl ?_|refine PutK.mk' rfl ?_|refine Ops.nil ?_|refine DStp.pure rfl ?_|refine PutD.mk' rfl ?_|((with_reducible refine Look.id ?_);refine Look.at ?_;try (conv=>arg 7;whnf))|((with_reducible refine Side.id ?_);first|refine Side.auto ?_)|((with_reducible refine Br.id ?_);first|(with_reducible first|refine br_true rfl ?_))|((with_reducible refine SemWp.id ?_);first|refine sem_seq ?_|refine sem_region rfl ?_|refine sem_cond rfl ?_|refine sem_block ?_|refine sem_skip ?_|refine sem_draw ?_)|((with_reducible refine qThen.id ?_);first|refine qThen.go ?_)|((with_reducible refine hinBlock.id ?_);first|refine hinBlock.go ?_)|((with_reducible refine hround.id ?_);first|refine hround.go ?_)|refine Stp.valS ?_|refine Stp.look ?_|refine Stp.call ?_|refine DStp.valS ?_|refine DStp.look ?_|((with_reducible refine CallWp.id ?_);first|(refine callA cx (N) ?_;(conv=>whnf)))|refine TStp.look ?_|refine TStp.val ?_|refine TStp.upd [(_,.cells _ _),(_,_)] rfl rfl (by repeat first|exact HsetIs.hit) ?_|refine TStp.app [(_,_),(_,.tok _)] (by repeat first|exact HsetIs.hit|apply HsetIs.miss (by first|assumption)) ?_
   have e1:(acc ++ [x]).map encPD=acc.map encPD ++ [encPD x]:=by simp
   have e2:(acc ++ [x]).length=acc.length+1:=by simp
   refine Fin.mk ⟨g,acc ++ [x],m,(),⟨hf1.1,by rw [e2];omega,hm⟩,by omega,Sub.cons rfl rfl (Sub.cons rfl rfl (Sub.cons rfl rfl (Sub.cons rfl rfl (Sub.nil _)))),?_⟩
   rw [e1,e2]
   exact Subp.tk
theorem Prog_spec (s:ByteArray):Pur cx 5 [ss s] (progV (progR s)):=by
 unfold progR
 cases h:lexR s with
 |error x=>exact prog_le s x.1 x.2 h
 |ok l=>
  have wn:=lexR_wf h
  have hi:=lexR_pos h
  have hs:=pProg_some wn.toWfT (16 * l.length+4) [] 0 hi (by omega)
  simp only []
  cases hr:pProg l (16 * l.length+4) [] 0 with
  |none=>exact absurd hr hs
  |some res=>
   rw [show 16 * l.length+4=(16 * l.length+3)+1 from rfl,pMore_succ] at hr
   cases hp:pProc l (16 * l.length+3) 0 with
   |none=>rw [hp] at hr;cases hr
   |some r1=>
    rw [hp] at hr
    cases r1 with
    |error x=>
     obtain ⟨c,j,d⟩:=x
     cases hr
     exact prog_er0 s l h _ c j d hp
    |ok x=>
     obtain ⟨p0,j0⟩:=x
     have:=prog_ok0 s l h _ p0 j0 hp res hr
     cases res with
     |ok y=>exact this
     |error y=>exact this
end Go.Proofs.Hk

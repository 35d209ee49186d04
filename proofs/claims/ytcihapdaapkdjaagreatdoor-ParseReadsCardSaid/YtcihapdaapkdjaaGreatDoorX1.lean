import Derived.Test.YtcihapdaapkdjaaGreatDoorP10
import Derived.Test.YtcihapdaapkdjaaGreatDoorQ5
import Derived.Test.YtcihapdaapkdjaaGreatDoorH30
import Derived.Test.YtcihapdaapkdjaaGreatDoorH41
set_option linter.unusedSimpArgs false
set_option linter.unusedVariables false
set_option maxRecDepth 4000
namespace Go.Proofs.Hk
open Go Go.Proofs
/-! The reference's reader. -/
def rs (l:List Tk) (i:Nat) (d e a:Int):Res:=.cells [LTk l,ii i,ii d,ii e,ii a] 56
theorem rfail_ok (r:Nat) (l:List Tk) (i:Nat) (d a c:Int) (hi:i < l.length):To 45 [.ptr r 0,ii c] [(r,rs l i d 0 a)] (.ret (.tup [])) [(r,rs l i d c (tk l i).pos)]:=by
 have g:=getD_tk hi
 have m:(l.map tokD).length=l.length:=by simp
 unfold rs
 generalize (tk l i).kind=k at *
 generalize (tk l i).text=t at *
 generalize ((tk l i).pos:Int)=p at *
 refine HCalls.to (sem_calls' cx (fn:=Tryz.f45) rfl rfl rfl rfl ?_)
 repeat' first|((with_reducible refine DrawReg.id ?_);refine drawN cx [[(_,.cells _ _)]] rfl [[14]] [[4,8]] [0,1,2,3,4,5,6,7,8,9,10,11,12,13,14] (by repeat first|exact HTake.nil|(apply HTake.cons;focus (repeat first|exact HPick.hit))) rfl (by decide +kernel) ?_)|(refine DN.quiet rfl rfl rfl rfl ?_;(conv=>arg 7;whnf))|(refine DN.read rfl rfl rfl rfl rfl rfl ?_;(conv=>arg 7;whnf))|(refine DN.turn rfl rfl rfl rfl rfl ?_;(conv=>arg 7;whnf))|(refine DN.nilF ?_;(conv=>whnf))|refine Ops.tag rfl ?_|(refine OpsT.go ?_;(conv=>arg 7;whnf))|((with_reducible refine Stp.isEq ?_);first|refine Stp.eqT ?_)|refine Stp.pure rfl ?_|((with_reducible refine PutK.isSet ?_);refine PutK.st ?_)|refine PutK.mk' rfl ?_|refine Ops.nil ?_|refine DStp.pure rfl ?_|refine PutD.mk' rfl ?_|((with_reducible refine Look.id ?_);refine Look.at ?_;try (conv=>arg 7;whnf))|((with_reducible refine Side.id ?_);first|refine Side.auto ?_)|((with_reducible refine Br.id ?_);first|(with_reducible first|refine br_true rfl ?_))|((with_reducible refine SemWp.id ?_);first|refine sem_seq ?_|refine sem_region rfl ?_|refine sem_cond rfl ?_|refine sem_draw ?_)|((with_reducible refine qThen.id ?_);first|refine qThen.go ?_)|refine Stp.valS ?_|refine Stp.look ?_|refine Stp.eff ?_|refine DStp.valS ?_|refine DStp.look ?_|((with_reducible refine BodyR.id ?_);first|refine BodyR.ret ?_|refine BodyR.go ?_)|((with_reducible refine ResG.id ?_);first|refine ResG.nil ?_)|((with_reducible refine Upd.id ?_);first|(refine Upd.lit rfl ?_;(conv=>whnf)))|refine TStp.look ?_|refine TStp.upd [(_,.cells _ _)] rfl rfl (by repeat first|exact HsetIs.hit) ?_|rw [g]
 refine Fin.mk ?_
 refine ⟨WeakerE.refl _,Subp.tk⟩
theorem rfail_er (r:Nat) (l:List Tk) (i:Nat) (d e a c:Int) (he:¬ e=0):To 45 [.ptr r 0,ii c] [(r,rs l i d e a)] (.ret (.tup [])) [(r,rs l i d e a)]:=by
 unfold rs
 refine HCalls.to (sem_calls' cx (fn:=Tryz.f45) rfl rfl rfl rfl ?_)
 repeat' first|refine Ops.tag rfl ?_|(refine OpsT.go ?_;(conv=>arg 7;whnf))|((with_reducible refine Stp.isEq ?_);first|refine Stp.eqF ?_)|refine Stp.pure rfl ?_|refine Ops.nil ?_|((with_reducible refine Look.id ?_);refine Look.at ?_;try (conv=>arg 7;whnf))|((with_reducible refine Side.id ?_);first|refine Side.auto ?_)|((with_reducible refine Br.id ?_);first|(with_reducible first|refine br_false rfl ?_))|((with_reducible refine SemWp.id ?_);first|refine sem_seq ?_|refine sem_region rfl ?_|refine sem_cond rfl ?_|refine sem_skip ?_)|((with_reducible refine qThen.id ?_);first|refine qThen.go ?_)|refine Stp.valS ?_|refine Stp.look ?_|((with_reducible refine BodyR.id ?_);first|refine BodyR.ret ?_|refine BodyR.go ?_)|((with_reducible refine ResG.id ?_);first|refine ResG.nil ?_)
 refine Fin.mk ?_
 refine ⟨WeakerE.refl _,Subp.tk⟩
theorem ris_ok (r:Nat) (l:List Tk) (i:Nat) (d a:Int) (s:ByteArray) (hi:i < l.length):To 46 [.ptr r 0,ss s] [(r,rs l i d 0 a)] (.ret (bb (isT l i s))) [(r,rs l i d 0 a)]:=by
 have g:=getD_tk hi
 have m:(l.map tokD).length=l.length:=by simp
 have e:isT l i s=((((tk l i).kind == 4)||((tk l i).kind == 3)) && strEq (tk l i).text s):=rfl
 unfold rs
 rw [e]
 generalize (tk l i).kind=k at *
 generalize (tk l i).text=t at *
 generalize ((tk l i).pos:Int)=p at *
 clear e
 refine HCalls.to (sem_calls' cx (fn:=Tryz.f46) rfl rfl rfl rfl ?_)
 repeat' first|(refine DN.alloc rfl rfl rfl rfl rfl rfl rfl rfl rfl ?_;skip)|((with_reducible refine DrawReg.id ?_);refine drawVoid (fun r hr=>?_);simp only [keys,List.nil_append,List.cons_append,List.map_cons,List.map_nil,List.mem_cons,List.not_mem_nil,not_or,or_false,not_false_eq_true] at hr;(repeat (obtain ⟨_,hr⟩:=hr));refine drawN cx [[(_,.void)]] rfl [[10,11]] [] [0,1,2,3,4,5,6,7,8,9,10,11] (by repeat first|exact HTake.nil|(apply HTake.cons;focus (repeat first|exact HPick.hit))) rfl (by decide +kernel) ?_)|(refine DN.quiet rfl rfl rfl rfl ?_;(conv=>arg 7;whnf))|(refine DN.turn rfl rfl rfl rfl rfl ?_;(conv=>arg 7;whnf))|(refine DN.nilF ?_;(conv=>whnf))|refine Ops.tag rfl ?_|((with_reducible first|refine OpsT.yes ?_);(conv=>arg 7;whnf))|(refine OpsT.go ?_;(conv=>arg 7;whnf))|(with_reducible first|refine Stp.andT ?_)|((with_reducible refine Stp.isEq ?_);first|refine Stp.eqT ?_)|refine Stp.pure rfl ?_|refine Ops.nil ?_|refine DStp.pure rfl ?_|refine PutD.mk' rfl ?_|((with_reducible refine Look.id ?_);refine Look.at ?_;try (conv=>arg 7;whnf))|((with_reducible refine Side.id ?_);first|refine Side.auto ?_)|((with_reducible refine SemWp.id ?_);first|refine sem_seq ?_|refine sem_region rfl ?_|refine sem_ret ?_|refine sem_draw ?_)|((with_reducible refine qThen.id ?_);first|refine qThen.go ?_)|refine Stp.valS ?_|refine Stp.valSC ?_|refine Stp.look ?_|refine DStp.valS ?_|refine DStp.look ?_|((with_reducible refine BodyR.id ?_);first|refine BodyR.ret ?_)|((with_reducible refine ResG.id ?_);first|refine ResG.tmp rfl ?_|refine ResG.nil ?_)|refine TStp.look ?_|refine TStp.upd [(_,.cells _ _)] rfl rfl (by repeat first|exact HsetIs.hit) ?_|rw [g]
 refine Fin.mk ?_
 refine ⟨WeakerE.refl _,Subp.tk⟩
theorem ris_er (r:Nat) (l:List Tk) (i:Nat) (d e a:Int) (s:ByteArray) (hi:i < l.length) (he:¬ e=0):To 46 [.ptr r 0,ss s] [(r,rs l i d e a)] (.ret (bb false)) [(r,rs l i d e a)]:=by
 have g:=getD_tk hi
 have m:(l.map tokD).length=l.length:=by simp
 unfold rs
 generalize (tk l i).kind=k at *
 generalize (tk l i).text=t at *
 generalize ((tk l i).pos:Int)=p at *
 refine HCalls.to (sem_calls' cx (fn:=Tryz.f46) rfl rfl rfl rfl ?_)
 repeat' first|(refine DN.alloc rfl rfl rfl rfl rfl rfl rfl rfl rfl ?_;skip)|((with_reducible refine DrawReg.id ?_);refine drawVoid (fun r hr=>?_);simp only [keys,List.nil_append,List.cons_append,List.map_cons,List.map_nil,List.mem_cons,List.not_mem_nil,not_or,or_false,not_false_eq_true] at hr;(repeat (obtain ⟨_,hr⟩:=hr));refine drawN cx [[(_,.void)]] rfl [[10,11]] [] [0,1,2,3,4,5,6,7,8,9,10,11] (by repeat first|exact HTake.nil|(apply HTake.cons;focus (repeat first|exact HPick.hit))) rfl (by decide +kernel) ?_)|(refine DN.quiet rfl rfl rfl rfl ?_;(conv=>arg 7;whnf))|(refine DN.turn rfl rfl rfl rfl rfl ?_;(conv=>arg 7;whnf))|(refine DN.nilF ?_;(conv=>whnf))|refine Ops.tag rfl ?_|(with_reducible first|refine OpsT.andF ?_|refine OpsT.no ?_)|(refine OpsT.go ?_;(conv=>arg 7;whnf))|(with_reducible first|refine Stp.andF ?_)|((with_reducible refine Stp.isEq ?_);first|refine Stp.eqF ?_)|refine Stp.pure rfl ?_|refine PutK.mk' rfl ?_|refine Ops.nil ?_|refine DStp.pure rfl ?_|refine PutD.mk' rfl ?_|((with_reducible refine Look.id ?_);refine Look.at ?_;try (conv=>arg 7;whnf))|((with_reducible refine Side.id ?_);first|refine Side.auto ?_)|((with_reducible refine SemWp.id ?_);first|refine sem_seq ?_|refine sem_region rfl ?_|refine sem_ret ?_|refine sem_draw ?_)|((with_reducible refine qThen.id ?_);first|refine qThen.go ?_)|refine Stp.valS ?_|refine Stp.look ?_|refine DStp.valS ?_|refine DStp.look ?_|((with_reducible refine BodyR.id ?_);first|refine BodyR.ret ?_)|((with_reducible refine ResG.id ?_);first|refine ResG.tmp rfl ?_|refine ResG.nil ?_)|refine TStp.look ?_|refine TStp.upd [(_,.cells _ _)] rfl rfl (by repeat first|exact HsetIs.hit) ?_|rw [g]
 refine Fin.mk ?_
 refine ⟨WeakerE.refl _,Subp.tk⟩
theorem rtake_yes (r:Nat) (l:List Tk) (i:Nat) (d a:Int) (s:ByteArray) (wf:WfT l) (hi:i < l.length) (h:isT l i s=true):To 38 [.ptr r 0,ss s] [(r,rs l i d 0 a)] (.ret (bb true)) [(r,rs l (i+1) d 0 a)]:=by
 have I:=ris_ok r l i d a s hi
 have wl:=wf.len
 rw [h] at I
 unfold rs at *
 refine HCalls.to (sem_calls' cx (fn:=Tryz.f38) rfl rfl rfl rfl ?_)
 repeat' first|refine Ops.tag rfl ?_|(refine OpsT.go ?_;(conv=>arg 7;whnf))|(with_reducible first|refine Stp.notT ?_)|((with_reducible refine Stp.isSum ?_);refine Stp.sum ?_)|refine Stp.pure rfl ?_|((with_reducible refine PutK.isSet ?_);refine PutK.st ?_)|refine PutK.mk' rfl ?_|refine Ops.nil ?_|((with_reducible refine Look.id ?_);refine Look.at ?_;try (conv=>arg 7;whnf))|((with_reducible refine Side.id ?_);first|refine Side.auto ?_)|((with_reducible refine Br.id ?_);first|(with_reducible first|refine br_false rfl ?_))|((with_reducible refine SemWp.id ?_);first|refine sem_seq ?_|refine sem_region rfl ?_|refine sem_cond rfl ?_|refine sem_ret ?_|refine sem_skip ?_)|((with_reducible refine qThen.id ?_);first|refine qThen.go ?_)|refine Stp.valS ?_|refine Stp.look ?_|refine Stp.call ?_|refine Stp.eff ?_|((with_reducible refine CallWp.id ?_);first|(refine callA cx (I) ?_;(conv=>whnf)))|((with_reducible refine BodyR.id ?_);first|refine BodyR.ret ?_)|((with_reducible refine ResG.id ?_);first|refine ResG.tmp rfl ?_|refine ResG.nil ?_)|((with_reducible refine Upd.id ?_);first|(refine Upd.lit rfl ?_;(conv=>whnf)))
 refine Fin.mk ?_
 refine ⟨WeakerE.refl _,Subp.tk⟩
theorem rtake_no (r:Nat) (l:List Tk) (i:Nat) (d a:Int) (s:ByteArray) (hi:i < l.length) (h:isT l i s=false):To 38 [.ptr r 0,ss s] [(r,rs l i d 0 a)] (.ret (bb false)) [(r,rs l i d 0 a)]:=by
 have I:=ris_ok r l i d a s hi
 rw [h] at I
 unfold rs at *
 refine HCalls.to (sem_calls' cx (fn:=Tryz.f38) rfl rfl rfl rfl ?_)
 repeat' first|refine Ops.tag rfl ?_|(refine OpsT.go ?_;(conv=>arg 7;whnf))|(with_reducible first|refine Stp.notF ?_)|refine Stp.pure rfl ?_|refine PutK.mk' rfl ?_|refine Ops.nil ?_|((with_reducible refine Side.id ?_);first|refine Side.auto ?_)|((with_reducible refine Br.id ?_);first|(with_reducible first|refine br_true rfl ?_))|((with_reducible refine SemWp.id ?_);first|refine sem_seq ?_|refine sem_region rfl ?_|refine sem_cond rfl ?_|refine sem_ret ?_)|((with_reducible refine qThen.id ?_);first|refine qThen.go ?_|refine qThen.ret ?_)|refine Stp.call ?_|((with_reducible refine CallWp.id ?_);first|(refine callA cx (I) ?_;(conv=>whnf)))|((with_reducible refine BodyR.id ?_);first|refine BodyR.ret ?_)|((with_reducible refine ResG.id ?_);first|refine ResG.tmp rfl ?_|refine ResG.nil ?_)
 refine Fin.mk ?_
 refine ⟨WeakerE.refl _,Subp.tk⟩
theorem rtake_er (r:Nat) (l:List Tk) (i:Nat) (d e a:Int) (s:ByteArray) (hi:i < l.length) (he:¬ e=0):To 38 [.ptr r 0,ss s] [(r,rs l i d e a)] (.ret (bb false)) [(r,rs l i d e a)]:=by
 have I:=ris_er r l i d e a s hi he
 unfold rs at *
 refine HCalls.to (sem_calls' cx (fn:=Tryz.f38) rfl rfl rfl rfl ?_)
 repeat' first|refine Ops.tag rfl ?_|(refine OpsT.go ?_;(conv=>arg 7;whnf))|(with_reducible first|refine Stp.notF ?_)|refine Stp.pure rfl ?_|refine PutK.mk' rfl ?_|refine Ops.nil ?_|((with_reducible refine Side.id ?_);first|refine Side.auto ?_)|((with_reducible refine Br.id ?_);first|(with_reducible first|refine br_true rfl ?_))|((with_reducible refine SemWp.id ?_);first|refine sem_seq ?_|refine sem_region rfl ?_|refine sem_cond rfl ?_|refine sem_ret ?_)|((with_reducible refine qThen.id ?_);first|refine qThen.go ?_|refine qThen.ret ?_)|refine Stp.call ?_|((with_reducible refine CallWp.id ?_);first|(refine callA cx (I) ?_;(conv=>whnf)))|((with_reducible refine BodyR.id ?_);first|refine BodyR.ret ?_)|((with_reducible refine ResG.id ?_);first|refine ResG.tmp rfl ?_|refine ResG.nil ?_)
 refine Fin.mk ?_
 refine ⟨WeakerE.refl _,Subp.tk⟩
theorem rwant_yes (r:Nat) (l:List Tk) (i:Nat) (d a:Int) (s:ByteArray) (wf:WfT l) (hi:i < l.length) (h:isT l i s=true):To 35 [.ptr r 0,ss s] [(r,rs l i d 0 a)] (.ret (.tup [])) [(r,rs l (i+1) d 0 a)]:=by
 have I:=rtake_yes r l i d a s wf hi h
 unfold rs at *
 refine HCalls.to (sem_calls' cx (fn:=Tryz.f35) rfl rfl rfl rfl ?_)
 repeat' first|refine Ops.tag rfl ?_|(refine OpsT.go ?_;(conv=>arg 7;whnf))|(with_reducible first|refine Stp.notT ?_)|refine Stp.pure rfl ?_|refine PutK.mk' rfl ?_|refine Ops.nil ?_|((with_reducible refine Side.id ?_);first|refine Side.auto ?_)|((with_reducible refine Br.id ?_);first|(with_reducible first|refine br_false rfl ?_))|((with_reducible refine SemWp.id ?_);first|refine sem_seq ?_|refine sem_region rfl ?_|refine sem_cond rfl ?_|refine sem_skip ?_)|((with_reducible refine qThen.id ?_);first|refine qThen.go ?_)|refine Stp.call ?_|((with_reducible refine CallWp.id ?_);first|(refine callA cx (I) ?_;(conv=>whnf)))|((with_reducible refine BodyR.id ?_);first|refine BodyR.ret ?_|refine BodyR.go ?_)|((with_reducible refine ResG.id ?_);first|refine ResG.nil ?_)
 refine Fin.mk ?_
 refine ⟨WeakerE.refl _,Subp.tk⟩
theorem rwant_no (r:Nat) (l:List Tk) (i:Nat) (d a:Int) (s:ByteArray) (hi:i < l.length) (h:isT l i s=false):To 35 [.ptr r 0,ss s] [(r,rs l i d 0 a)] (.ret (.tup [])) [(r,rs l i d 4 (tk l i).pos)]:=by
 have I:=rtake_no r l i d a s hi h
 have F:=rfail_ok r l i d a 4 hi
 unfold rs at *
 refine HCalls.to (sem_calls' cx (fn:=Tryz.f35) rfl rfl rfl rfl ?_)
 repeat' first|refine Ops.tag rfl ?_|(refine OpsT.go ?_;(conv=>arg 7;whnf))|(with_reducible first|refine Stp.notF ?_)|refine Stp.pure rfl ?_|refine PutK.mk' rfl ?_|refine Ops.nil ?_|((with_reducible refine Side.id ?_);first|refine Side.auto ?_)|((with_reducible refine Br.id ?_);first|(with_reducible first|refine br_true rfl ?_))|((with_reducible refine SemWp.id ?_);first|refine sem_seq ?_|refine sem_region rfl ?_|refine sem_cond rfl ?_)|((with_reducible refine qThen.id ?_);first|refine qThen.go ?_)|refine Stp.call ?_|((with_reducible refine CallWp.id ?_);first|(refine callA cx (I) ?_;(conv=>whnf))|(refine callA cx (F) ?_;(conv=>whnf)))|((with_reducible refine BodyR.id ?_);first|refine BodyR.ret ?_|refine BodyR.go ?_)|((with_reducible refine ResG.id ?_);first|refine ResG.nil ?_)
 refine Fin.mk ?_
 refine ⟨WeakerE.refl _,Subp.tk⟩
theorem rwant_er (r:Nat) (l:List Tk) (i:Nat) (d e a:Int) (s:ByteArray) (hi:i < l.length) (he:¬ e=0):To 35 [.ptr r 0,ss s] [(r,rs l i d e a)] (.ret (.tup [])) [(r,rs l i d e a)]:=by
 have I:=rtake_er r l i d e a s hi he
 have F:=rfail_er r l i d e a 4 he
 unfold rs at *
 refine HCalls.to (sem_calls' cx (fn:=Tryz.f35) rfl rfl rfl rfl ?_)
 repeat' first|refine Ops.tag rfl ?_|(refine OpsT.go ?_;(conv=>arg 7;whnf))|(with_reducible first|refine Stp.notF ?_)|refine Stp.pure rfl ?_|refine PutK.mk' rfl ?_|refine Ops.nil ?_|((with_reducible refine Side.id ?_);first|refine Side.auto ?_)|((with_reducible refine Br.id ?_);first|(with_reducible first|refine br_true rfl ?_))|((with_reducible refine SemWp.id ?_);first|refine sem_seq ?_|refine sem_region rfl ?_|refine sem_cond rfl ?_)|((with_reducible refine qThen.id ?_);first|refine qThen.go ?_)|refine Stp.call ?_|((with_reducible refine CallWp.id ?_);first|(refine callA cx (I) ?_;(conv=>whnf))|(refine callA cx (F) ?_;(conv=>whnf)))|((with_reducible refine BodyR.id ?_);first|refine BodyR.ret ?_|refine BodyR.go ?_)|((with_reducible refine ResG.id ?_);first|refine ResG.nil ?_)
 refine Fin.mk ?_
 refine ⟨WeakerE.refl _,Subp.tk⟩
theorem ropen_yes (r:Nat) (l:List Tk) (i:Nat) (d a:Int) (s:ByteArray) (wf:WfT l) (hi:i < l.length) (h:isT l i s=true) (hd:¬ 50≤d) (h0:0≤d):To 65 [.ptr r 0,ss s] [(r,rs l i d 0 a)] (.ret (.tup [])) [(r,rs l (i+1) (d+1) 0 a)]:=by
 have I:=ris_ok r l i d a s hi
 have W:=rwant_yes r l i d a s wf hi h
 rw [h] at I
 unfold rs at *
 refine HCalls.to (sem_calls' cx (fn:=Tryz.f65) rfl rfl rfl rfl ?_)
 repeat' first|refine Ops.tag rfl ?_|((with_reducible first|refine OpsT.yes ?_);(conv=>arg 7;whnf))|(refine OpsT.go ?_;(conv=>arg 7;whnf))|(with_reducible first|refine Stp.andT ?_)|((with_reducible refine Stp.isSum ?_);refine Stp.sum ?_)|((with_reducible refine Stp.isDec ?_);first|refine Stp.decF ?_)|refine Stp.pure rfl ?_|((with_reducible refine PutK.isSet ?_);refine PutK.st ?_)|refine PutK.mk' rfl ?_|refine Ops.nil ?_|((with_reducible refine Look.id ?_);refine Look.at ?_;try (conv=>arg 7;whnf))|((with_reducible refine Side.id ?_);first|refine Side.auto ?_)|((with_reducible refine Br.id ?_);first|(with_reducible first|refine br_false rfl ?_))|((with_reducible refine SemWp.id ?_);first|refine sem_seq ?_|refine sem_region rfl ?_|refine sem_cond rfl ?_|refine sem_skip ?_)|((with_reducible refine qThen.id ?_);first|refine qThen.go ?_)|refine Stp.valS ?_|refine Stp.look ?_|refine Stp.call ?_|refine Stp.eff ?_|((with_reducible refine CallWp.id ?_);first|(refine callA cx (I) ?_;(conv=>whnf))|(refine callA cx (W) ?_;(conv=>whnf)))|((with_reducible refine BodyR.id ?_);first|refine BodyR.ret ?_|refine BodyR.go ?_)|((with_reducible refine ResG.id ?_);first|refine ResG.nil ?_)|((with_reducible refine Upd.id ?_);first|(refine Upd.lit rfl ?_;(conv=>whnf)))
 refine Fin.mk ?_
 refine ⟨WeakerE.refl _,Subp.tk⟩
theorem ropen_deep (r:Nat) (l:List Tk) (i:Nat) (d a:Int) (s:ByteArray) (hi:i < l.length) (h:isT l i s=true) (hd:50≤d) (h1:d≤50):To 65 [.ptr r 0,ss s] [(r,rs l i d 0 a)] (.ret (.tup [])) [(r,rs l i (d+1) 5 (tk l i).pos)]:=by
 have I:=ris_ok r l i d a s hi
 have F:=rfail_ok r l i d a 5 hi
 have W:=rwant_er r l i d 5 (tk l i).pos s hi (by decide)
 rw [h] at I
 unfold rs at *
 refine HCalls.to (sem_calls' cx (fn:=Tryz.f65) rfl rfl rfl rfl ?_)
 repeat' first|refine Ops.tag rfl ?_|((with_reducible first|refine OpsT.yes ?_);(conv=>arg 7;whnf))|(refine OpsT.go ?_;(conv=>arg 7;whnf))|(with_reducible first|refine Stp.andT ?_)|((with_reducible refine Stp.isSum ?_);refine Stp.sum ?_)|((with_reducible refine Stp.isDec ?_);first|refine Stp.decT ?_)|refine Stp.pure rfl ?_|((with_reducible refine PutK.isSet ?_);refine PutK.st ?_)|refine PutK.mk' rfl ?_|refine Ops.nil ?_|((with_reducible refine Look.id ?_);refine Look.at ?_;try (conv=>arg 7;whnf))|((with_reducible refine Side.id ?_);first|refine Side.auto ?_)|((with_reducible refine Br.id ?_);first|(with_reducible first|refine br_true rfl ?_))|((with_reducible refine SemWp.id ?_);first|refine sem_seq ?_|refine sem_region rfl ?_|refine sem_cond rfl ?_)|((with_reducible refine qThen.id ?_);first|refine qThen.go ?_)|refine Stp.valS ?_|refine Stp.look ?_|refine Stp.call ?_|refine Stp.eff ?_|((with_reducible refine CallWp.id ?_);first|(refine callA cx (I) ?_;(conv=>whnf))|(refine callA cx (F) ?_;(conv=>whnf))|(refine callA cx (W) ?_;(conv=>whnf)))|((with_reducible refine BodyR.id ?_);first|refine BodyR.ret ?_|refine BodyR.go ?_)|((with_reducible refine ResG.id ?_);first|refine ResG.nil ?_)|((with_reducible refine Upd.id ?_);first|(refine Upd.lit rfl ?_;(conv=>whnf)))
 refine Fin.mk ?_
 refine ⟨WeakerE.refl _,Subp.tk⟩
theorem ropen_no (r:Nat) (l:List Tk) (i:Nat) (d a:Int) (s:ByteArray) (hi:i < l.length) (h:isT l i s=false) (h0:0≤d) (h1:d≤50):To 65 [.ptr r 0,ss s] [(r,rs l i d 0 a)] (.ret (.tup [])) [(r,rs l i (d+1) 4 (tk l i).pos)]:=by
 have I:=ris_ok r l i d a s hi
 have W:=rwant_no r l i d a s hi h
 rw [h] at I
 unfold rs at *
 refine HCalls.to (sem_calls' cx (fn:=Tryz.f65) rfl rfl rfl rfl ?_)
 repeat' first|refine Ops.tag rfl ?_|(with_reducible first|refine OpsT.no ?_)|(refine OpsT.go ?_;(conv=>arg 7;whnf))|(with_reducible first|refine Stp.andF ?_)|((with_reducible refine Stp.isSum ?_);refine Stp.sum ?_)|refine Stp.pure rfl ?_|((with_reducible refine PutK.isSet ?_);refine PutK.st ?_)|refine PutK.mk' rfl ?_|refine Ops.nil ?_|((with_reducible refine Look.id ?_);refine Look.at ?_;try (conv=>arg 7;whnf))|((with_reducible refine Side.id ?_);first|refine Side.auto ?_)|((with_reducible refine Br.id ?_);first|(with_reducible first|refine br_false rfl ?_))|((with_reducible refine SemWp.id ?_);first|refine sem_seq ?_|refine sem_region rfl ?_|refine sem_cond rfl ?_|refine sem_skip ?_)|((with_reducible refine qThen.id ?_);first|refine qThen.go ?_)|refine Stp.valS ?_|refine Stp.look ?_|refine Stp.call ?_|refine Stp.eff ?_|((with_reducible refine CallWp.id ?_);first|(refine callA cx (I) ?_;(conv=>whnf))|(refine callA cx (W) ?_;(conv=>whnf)))|((with_reducible refine BodyR.id ?_);first|refine BodyR.ret ?_|refine BodyR.go ?_)|((with_reducible refine ResG.id ?_);first|refine ResG.nil ?_)|((with_reducible refine Upd.id ?_);first|(refine Upd.lit rfl ?_;(conv=>whnf)))
 refine Fin.mk ?_
 refine ⟨WeakerE.refl _,Subp.tk⟩
theorem ropen_er (r:Nat) (l:List Tk) (i:Nat) (d e a:Int) (s:ByteArray) (hi:i < l.length) (he:¬ e=0) (h0:0≤d) (h1:d≤50):To 65 [.ptr r 0,ss s] [(r,rs l i d e a)] (.ret (.tup [])) [(r,rs l i (d+1) e a)]:=by
 have I:=ris_er r l i d e a s hi he
 have W:=rwant_er r l i d e a s hi he
 unfold rs at *
 refine HCalls.to (sem_calls' cx (fn:=Tryz.f65) rfl rfl rfl rfl ?_)
 repeat' first|refine Ops.tag rfl ?_|(with_reducible first|refine OpsT.no ?_)|(refine OpsT.go ?_;(conv=>arg 7;whnf))|(with_reducible first|refine Stp.andF ?_)|((with_reducible refine Stp.isSum ?_);refine Stp.sum ?_)|refine Stp.pure rfl ?_|((with_reducible refine PutK.isSet ?_);refine PutK.st ?_)|refine PutK.mk' rfl ?_|refine Ops.nil ?_|((with_reducible refine Look.id ?_);refine Look.at ?_;try (conv=>arg 7;whnf))|((with_reducible refine Side.id ?_);first|refine Side.auto ?_)|((with_reducible refine Br.id ?_);first|(with_reducible first|refine br_false rfl ?_))|((with_reducible refine SemWp.id ?_);first|refine sem_seq ?_|refine sem_region rfl ?_|refine sem_cond rfl ?_|refine sem_skip ?_)|((with_reducible refine qThen.id ?_);first|refine qThen.go ?_)|refine Stp.valS ?_|refine Stp.look ?_|refine Stp.call ?_|refine Stp.eff ?_|((with_reducible refine CallWp.id ?_);first|(refine callA cx (I) ?_;(conv=>whnf))|(refine callA cx (W) ?_;(conv=>whnf)))|((with_reducible refine BodyR.id ?_);first|refine BodyR.ret ?_|refine BodyR.go ?_)|((with_reducible refine ResG.id ?_);first|refine ResG.nil ?_)|((with_reducible refine Upd.id ?_);first|(refine Upd.lit rfl ?_;(conv=>whnf)))
 refine Fin.mk ?_
 refine ⟨WeakerE.refl _,Subp.tk⟩
theorem rname_yes (r:Nat) (l:List Tk) (i:Nat) (d a:Int) (wf:WfT l) (hi:i < l.length) (h:(tk l i).kind=1):To 36 [.ptr r 0] [(r,rs l i d 0 a)] (.ret (ss (tk l i).text)) [(r,rs l (i+1) d 0 a)]:=by
 have g:=getD_tk hi
 have m:(l.map tokD).length=l.length:=by simp
 have wl:=wf.len
 unfold rs
 rw [h] at g
 generalize (tk l i).text=t at *
 generalize ((tk l i).pos:Int)=p at *
 refine HCalls.to (sem_calls' cx (fn:=Tryz.f36) rfl rfl rfl rfl ?_)
 repeat' first|(refine DN.alloc rfl rfl rfl rfl rfl rfl rfl rfl rfl ?_;skip)|((with_reducible refine DrawReg.id ?_);refine drawVoid (fun r hr=>?_);simp only [keys,List.nil_append,List.cons_append,List.map_cons,List.map_nil,List.mem_cons,List.not_mem_nil,not_or,or_false,not_false_eq_true] at hr;(repeat (obtain ⟨_,hr⟩:=hr));refine drawN cx [[(_,.void)]] rfl [[10,11]] [] [0,1,2,3,4,5,6,7,8,9,10,11] (by repeat first|exact HTake.nil|(apply HTake.cons;focus (repeat first|exact HPick.hit))) rfl (by decide +kernel) ?_)|(refine DN.quiet rfl rfl rfl rfl ?_;(conv=>arg 7;whnf))|(refine DN.turn rfl rfl rfl rfl rfl ?_;(conv=>arg 7;whnf))|(refine DN.nilF ?_;(conv=>whnf))|refine Ops.tag rfl ?_|((with_reducible first|refine OpsT.yes' ?_);(conv=>arg 7;whnf))|(refine OpsT.go ?_;(conv=>arg 7;whnf))|(with_reducible first|refine Stp.orF ?_)|((with_reducible refine Stp.isSum ?_);refine Stp.sum ?_)|((with_reducible refine Stp.isNe ?_);first|refine Stp.neF ?_)|refine Stp.pure rfl ?_|((with_reducible refine PutK.isSet ?_);refine PutK.st ?_)|refine PutK.mk' rfl ?_|refine Ops.nil ?_|refine DStp.pure rfl ?_|refine PutD.mk' rfl ?_|((with_reducible refine Look.id ?_);refine Look.at ?_;try (conv=>arg 7;whnf))|((with_reducible refine Side.id ?_);first|refine Side.auto ?_)|((with_reducible refine Br.id ?_);first|(with_reducible first|refine br_false rfl ?_))|((with_reducible refine SemWp.id ?_);first|refine sem_seq ?_|refine sem_region rfl ?_|refine sem_cond rfl ?_|refine sem_ret ?_|refine sem_skip ?_|refine sem_draw ?_)|((with_reducible refine qThen.id ?_);first|refine qThen.go ?_)|refine Stp.valS ?_|refine Stp.look ?_|refine Stp.eff ?_|refine DStp.valS ?_|refine DStp.look ?_|((with_reducible refine BodyR.id ?_);first|refine BodyR.ret ?_)|((with_reducible refine ResG.id ?_);first|refine ResG.tmp rfl ?_|refine ResG.nil ?_)|((with_reducible refine Upd.id ?_);first|(refine Upd.lit rfl ?_;(conv=>whnf)))|refine TStp.look ?_|refine TStp.upd [(_,.cells _ _)] rfl rfl (by repeat first|exact HsetIs.hit) ?_|rw [g]
 refine Fin.mk ?_
 refine ⟨WeakerE.refl _,Subp.tk⟩
theorem rname_no (r:Nat) (l:List Tk) (i:Nat) (d a:Int) (hi:i < l.length) (h:¬ (tk l i).kind=1):To 36 [.ptr r 0] [(r,rs l i d 0 a)] (.ret (ss noS)) [(r,rs l i d 4 (tk l i).pos)]:=by
 have g:=getD_tk hi
 have F:=rfail_ok r l i d a 4 hi
 have m:(l.map tokD).length=l.length:=by simp
 unfold rs at *
 generalize (tk l i).kind=k at *
 generalize (tk l i).text=t at *
 generalize ((tk l i).pos:Int)=p at *
 refine HCalls.to (sem_calls' cx (fn:=Tryz.f36) rfl rfl rfl rfl ?_)
 repeat' first|(refine DN.alloc rfl rfl rfl rfl rfl rfl rfl rfl rfl ?_;skip)|((with_reducible refine DrawReg.id ?_);refine drawVoid (fun r hr=>?_);simp only [keys,List.nil_append,List.cons_append,List.map_cons,List.map_nil,List.mem_cons,List.not_mem_nil,not_or,or_false,not_false_eq_true] at hr;(repeat (obtain ⟨_,hr⟩:=hr));refine drawN cx [[(_,.void)]] rfl [[10,11]] [] [0,1,2,3,4,5,6,7,8,9,10,11] (by repeat first|exact HTake.nil|(apply HTake.cons;focus (repeat first|exact HPick.hit))) rfl (by decide +kernel) ?_)|(refine DN.quiet rfl rfl rfl rfl ?_;(conv=>arg 7;whnf))|(refine DN.turn rfl rfl rfl rfl rfl ?_;(conv=>arg 7;whnf))|(refine DN.nilF ?_;(conv=>whnf))|refine Ops.tag rfl ?_|((with_reducible first|refine OpsT.yes' ?_);(conv=>arg 7;whnf))|(refine OpsT.go ?_;(conv=>arg 7;whnf))|(with_reducible first|refine Stp.orF ?_)|((with_reducible refine Stp.isNe ?_);first|refine Stp.neT ?_|refine Stp.neF ?_)|refine Stp.pure rfl ?_|refine PutK.mk' rfl ?_|refine Ops.nil ?_|refine DStp.pure rfl ?_|refine PutD.mk' rfl ?_|((with_reducible refine Look.id ?_);refine Look.at ?_;try (conv=>arg 7;whnf))|((with_reducible refine Side.id ?_);first|refine Side.auto ?_)|((with_reducible refine Br.id ?_);first|(with_reducible first|refine br_true rfl ?_))|((with_reducible refine SemWp.id ?_);first|refine sem_seq ?_|refine sem_region rfl ?_|refine sem_cond rfl ?_|refine sem_ret ?_|refine sem_draw ?_)|((with_reducible refine qThen.id ?_);first|refine qThen.go ?_|refine qThen.ret ?_)|refine Stp.valS ?_|refine Stp.look ?_|refine Stp.call ?_|refine DStp.valS ?_|refine DStp.look ?_|((with_reducible refine CallWp.id ?_);first|(refine callA cx (F) ?_;(conv=>whnf)))|((with_reducible refine BodyR.id ?_);first|refine BodyR.ret ?_)|((with_reducible refine ResG.id ?_);first|refine ResG.tmp rfl ?_|refine ResG.nil ?_)|refine TStp.look ?_|refine TStp.upd [(_,.cells _ _)] rfl rfl (by repeat first|exact HsetIs.hit) ?_|rw [g]
 refine Fin.mk ?_
 refine ⟨WeakerE.refl _,Subp.tk⟩
theorem rname_er (r:Nat) (l:List Tk) (i:Nat) (d e a:Int) (hi:i < l.length) (he:¬ e=0):To 36 [.ptr r 0] [(r,rs l i d e a)] (.ret (ss noS)) [(r,rs l i d e a)]:=by
 have g:=getD_tk hi
 have F:=rfail_er r l i d e a 4 he
 have m:(l.map tokD).length=l.length:=by simp
 unfold rs at *
 generalize (tk l i).kind=k at *
 generalize (tk l i).text=t at *
 generalize ((tk l i).pos:Int)=p at *
 refine HCalls.to (sem_calls' cx (fn:=Tryz.f36) rfl rfl rfl rfl ?_)
 repeat' first|(refine DN.alloc rfl rfl rfl rfl rfl rfl rfl rfl rfl ?_;skip)|((with_reducible refine DrawReg.id ?_);refine drawVoid (fun r hr=>?_);simp only [keys,List.nil_append,List.cons_append,List.map_cons,List.map_nil,List.mem_cons,List.not_mem_nil,not_or,or_false,not_false_eq_true] at hr;(repeat (obtain ⟨_,hr⟩:=hr));refine drawN cx [[(_,.void)]] rfl [[10,11]] [] [0,1,2,3,4,5,6,7,8,9,10,11] (by repeat first|exact HTake.nil|(apply HTake.cons;focus (repeat first|exact HPick.hit))) rfl (by decide +kernel) ?_)|(refine DN.quiet rfl rfl rfl rfl ?_;(conv=>arg 7;whnf))|(refine DN.turn rfl rfl rfl rfl rfl ?_;(conv=>arg 7;whnf))|(refine DN.nilF ?_;(conv=>whnf))|refine Ops.tag rfl ?_|(with_reducible first|refine OpsT.no' ?_)|(refine OpsT.go ?_;(conv=>arg 7;whnf))|(with_reducible first|refine Stp.orT ?_)|((with_reducible refine Stp.isNe ?_);first|refine Stp.neT ?_)|refine Stp.pure rfl ?_|refine PutK.mk' rfl ?_|refine Ops.nil ?_|refine DStp.pure rfl ?_|refine PutD.mk' rfl ?_|((with_reducible refine Look.id ?_);refine Look.at ?_;try (conv=>arg 7;whnf))|((with_reducible refine Side.id ?_);first|refine Side.auto ?_)|((with_reducible refine Br.id ?_);first|(with_reducible first|refine br_true rfl ?_))|((with_reducible refine SemWp.id ?_);first|refine sem_seq ?_|refine sem_region rfl ?_|refine sem_cond rfl ?_|refine sem_ret ?_|refine sem_draw ?_)|((with_reducible refine qThen.id ?_);first|refine qThen.go ?_|refine qThen.ret ?_)|refine Stp.valS ?_|refine Stp.look ?_|refine Stp.call ?_|refine DStp.valS ?_|refine DStp.look ?_|((with_reducible refine CallWp.id ?_);first|(refine callA cx (F) ?_;(conv=>whnf)))|((with_reducible refine BodyR.id ?_);first|refine BodyR.ret ?_)|((with_reducible refine ResG.id ?_);first|refine ResG.tmp rfl ?_|refine ResG.nil ?_)|refine TStp.look ?_|refine TStp.upd [(_,.cells _ _)] rfl rfl (by repeat first|exact HsetIs.hit) ?_|rw [g]
 refine Fin.mk ?_
 refine ⟨WeakerE.refl _,Subp.tk⟩
theorem rnum_spec (s:ByteArray) (h:DigS s):Pur cx 79 [ss s] (ii (numS s)):=by
 have hi:=h.hi
 have ml:s.data.toList.length=s.size:=by simp
 refine Pur.of (sem_calls' cx (fn:=Tryz.f79) rfl rfl rfl rfl ?_)
 repeat' first|refine Ops.tag rfl ?_|(refine OpsT.go ?_;(conv=>arg 7;whnf))|refine Stp.pure rfl ?_|refine Ops.nil ?_|((with_reducible refine SemWp.id ?_);first|refine sem_seq ?_|refine sem_region rfl ?_|refine sem_block ?_)|((with_reducible refine qThen.id ?_);first|refine qThen.go ?_)
 refine sem_loop cx (ι:=Nat) (fun j=>j≤s.size) (fun j=>[(0,.sure,ss s),(3,.sure,ii (numL (s.data.toList.take j))),(4,.sure,ii j)]) (fun _=>[]) (fun j=>s.size - j) 0 (Nat.zero_le _) (by repeat' first|exact Sub.nil _|refine Sub.auto ?_) (Subp.nil _) ?_
 intro j j1
 by_cases hj:j < s.size
 ·have hj':j < s.data.toList.length:=by omega
  have g:byteAt s (j:Int)=(s.data.toList[j].toNat:Int):=by
   unfold byteAt
   simp [List.getD_eq_getElem?_getD,hj]
  have dg:=h.dig _ (List.getElem_mem hj')
  have sm:=numL_small h.dig (j:=j) (by omega) (by omega)
  have nx:=numL_succ hj'
  generalize s.data.toList[j].toNat=x at *
  generalize numL (s.data.toList.take j)=n at *
  have w8:IntKind.u8.wrap ((x:Int) - 48)=(x:Int) - 48:=IntWalk.u8_in _ (by omega)
  have nx2:numL (s.data.toList.take (j+1))=10 * n+((x:Int) - 48):=nx
  repeat' first|refine Ops.tag rfl ?_|(refine OpsT.go ?_;(conv=>arg 7;whnf))|((with_reducible refine Stp.isSum ?_);refine Stp.sum ?_)|((with_reducible refine Stp.isDec ?_);first|refine Stp.decT ?_)|refine Stp.pure rfl ?_|refine Ops.nil ?_|((with_reducible refine Side.id ?_);first|refine Side.auto ?_)|((with_reducible refine Br.id ?_);first|(with_reducible first|refine br_true rfl ?_))|((with_reducible refine SemWp.id ?_);first|refine sem_seq ?_|refine sem_region rfl ?_|refine sem_cond rfl ?_|refine sem_block ?_|refine sem_skip ?_)|((with_reducible refine qThen.id ?_);first|refine qThen.go ?_)|((with_reducible refine hinBlock.id ?_);first|refine hinBlock.go ?_)|((with_reducible refine hround.id ?_);first|refine hround.go ?_)|refine Stp.valS ?_|rw [g]|rw [w8]
  exact Fin.mk ⟨j+1,by omega,by omega,by repeat' first|exact Sub.nil _|refine Sub.auto ?_ rfl (by first|rfl|assumption|omega|(rw [nx2,show IntKind.i64.wrap ((x:Int) - 48)=(x:Int) - 48 from wrap64 (by omega),wrap64 (by omega)];rfl)),Subp.nil _⟩
 ·have:j=s.size:=by omega
  subst this
  have e:numL (s.data.toList.take s.size)=numS s:=by rw [List.take_of_length_le (by omega)];rfl
  rw [e]
  repeat' first|refine Ops.tag rfl ?_|(refine OpsT.go ?_;(conv=>arg 7;whnf))|((with_reducible refine Stp.isDec ?_);first|refine Stp.decF ?_)|refine Stp.pure rfl ?_|refine Ops.nil ?_|((with_reducible refine Br.id ?_);first|(with_reducible first|refine br_false rfl ?_))|((with_reducible refine SemWp.id ?_);first|refine sem_seq ?_|refine sem_region rfl ?_|refine sem_cond rfl ?_|refine sem_exit ?_|refine sem_ret ?_)|((with_reducible refine qThen.id ?_);first|refine qThen.go ?_)|((with_reducible refine BodyR.id ?_);first|refine BodyR.ret ?_)|((with_reducible refine ResG.id ?_);first|refine ResG.tmp rfl ?_|refine ResG.nil ?_)
  exact Fin.mk rfl
end Go.Proofs.Hk

set_option linter.unusedSimpArgs false
set_option linter.unusedVariables false
set_option maxRecDepth 4000
namespace Go.Proofs.Hk
open Go Go.Proofs
/-- A row of nodes of one's own. -/
def ow (rt:Nat) (l:List ND):HV:=.list (.own rt 0) 5 (l.map encN)
theorem map_snoc (l:List ND) (n:ND):(l ++ [n]).map encN=l.map encN ++ [encN n]:=by simp
theorem two_spec (rt:Nat) (l:List ND) (a k:Int) (hl:l.length≤100000):To 64 [ow rt l,ii a,ii k] [(rt,.tok l.length)] (.ret (ow rt (l ++ [⟨k,0,noS,a,(l.length:Int) - 1⟩]))) [(rt,.tok (l ++ [(⟨k,0,noS,a,(l.length:Int) - 1⟩:ND)]).length)]:=by
 have m:(l.map encN).length=l.length:=by simp
 unfold ow
 rw [map_snoc,List.length_append,List.length_singleton]
 refine HCalls.to (sem_calls' cx (fn:=Tryz.f64) rfl rfl rfl rfl ?_)
 repeat' first|refine Ops.tag rfl ?_|(refine OpsT.go ?_;(conv=>arg 7;whnf))|((with_reducible refine Stp.isSum ?_);refine Stp.sum ?_)|refine Stp.pure rfl ?_|((with_reducible refine PutK.isSet ?_);refine PutK.st ?_)|refine PutK.mk' rfl ?_|refine Ops.nil ?_|((with_reducible refine Look.id ?_);refine Look.at ?_;try (conv=>arg 7;whnf))|((with_reducible refine Side.id ?_);first|refine Side.auto ?_)|((with_reducible refine SemWp.id ?_);first|refine sem_seq ?_|refine sem_region rfl ?_|refine sem_ret ?_)|((with_reducible refine qThen.id ?_);first|refine qThen.go ?_)|refine Stp.look ?_|refine Stp.eff ?_|((with_reducible refine BodyR.id ?_);first|refine BodyR.ret ?_)|((with_reducible refine ResG.id ?_);first|refine ResG.tmp rfl ?_|refine ResG.nil ?_)
 rw [m]
 refine Fin.mk ?_
 refine ⟨WeakerE.refl _,Subp.tk⟩
theorem rleaf_spec (rt:Nat) (l:List ND) (k n:Int) (s:ByteArray) (a b:Int) (hl:l.length≤100000):To 77 [ow rt l,.agg [ii k,ii n,ss s,ii a,ii b]] [(rt,.tok l.length)] (.ret (ow rt (l ++ [⟨k,n,s,-1,-1⟩]))) [(rt,.tok (l ++ [(⟨k,n,s,-1,-1⟩:ND)]).length)]:=by
 have m:(l.map encN).length=l.length:=by simp
 unfold ow
 rw [map_snoc,List.length_append,List.length_singleton]
 refine HCalls.to (sem_calls' cx (fn:=Tryz.f77) rfl rfl rfl rfl ?_)
 repeat' first|refine Ops.tag rfl ?_|(refine OpsT.go ?_;(conv=>arg 7;whnf))|refine Stp.pure rfl ?_|((with_reducible refine PutK.isSet ?_);refine PutK.st ?_)|refine PutK.mk' rfl ?_|refine Ops.nil ?_|((with_reducible refine Look.id ?_);refine Look.at ?_;try (conv=>arg 7;whnf))|((with_reducible refine Side.id ?_);first|refine Side.auto ?_)|((with_reducible refine SemWp.id ?_);first|refine sem_seq ?_|refine sem_region rfl ?_|refine sem_ret ?_)|((with_reducible refine qThen.id ?_);first|refine qThen.go ?_)|refine Stp.look ?_|refine Stp.eff ?_|(refine newN (fun r hr=>?_);simp only [keys,List.nil_append,List.cons_append,List.map_cons,List.map_nil,List.mem_cons,List.not_mem_nil,not_or,or_false,not_false_eq_true] at hr;(repeat (obtain ⟨_,hr⟩:=hr)))|((with_reducible refine BodyR.id ?_);first|refine BodyR.ret ?_)|((with_reducible refine ResG.id ?_);first|refine ResG.tmp rfl ?_|refine ResG.nil ?_)|((with_reducible refine Upd.id ?_);first|(refine Upd.lit rfl ?_;(conv=>whnf)))
 refine Fin.mk ?_
 refine ⟨WeakerE.refl _,Subp.tk⟩
/-- Behind an error nothing is read. -/
structure ErS (fn:FuncId) (l:List Tk):Prop where
 er:∀ (q rt i:Nat) (d e a:Int) (acc:List ND),i < l.length→q≠rt→¬ e=0→To fn [.ptr q 0,ow rt acc] [(q,rs l i d e a),(rt,.tok acc.length)] (.ret (ow rt acc)) [(q,rs l i d e a),(rt,.tok acc.length)]
theorem runary_er (l:List Tk):ErS 76 l:=by
 refine ⟨fun q rt i d e a acc hi hq he=>?_⟩
 unfold rs ow
 refine HCalls.to (sem_calls' cx (fn:=Tryz.f76) rfl rfl rfl rfl ?_)
 repeat' first|refine Ops.tag rfl ?_|(refine OpsT.go ?_;(conv=>arg 7;whnf))|((with_reducible refine Stp.isNe ?_);first|refine Stp.neT ?_)|refine Stp.pure rfl ?_|refine Ops.nil ?_|((with_reducible refine Look.id ?_);refine Look.at ?_;try (conv=>arg 7;whnf))|((with_reducible refine Side.id ?_);first|refine Side.auto ?_)|((with_reducible refine Br.id ?_);first|(with_reducible first|refine br_true rfl ?_))|((with_reducible refine SemWp.id ?_);first|refine sem_seq ?_|refine sem_region rfl ?_|refine sem_cond rfl ?_|refine sem_ret ?_)|((with_reducible refine qThen.id ?_);first|refine qThen.go ?_|refine qThen.ret ?_)|refine Stp.valS ?_|refine Stp.look ?_|((with_reducible refine BodyR.id ?_);first|refine BodyR.ret ?_)|((with_reducible refine ResG.id ?_);first|refine ResG.tmp rfl ?_|refine ResG.nil ?_)
 refine Fin.mk ?_
 refine ⟨WeakerE.refl _,Subp.tk⟩
theorem rlit_er (l:List Tk):ErS 71 l:=by
 refine ⟨fun q rt i d e a acc hi hq he=>?_⟩
 unfold rs ow
 refine HCalls.to (sem_calls' cx (fn:=Tryz.f71) rfl rfl rfl rfl ?_)
 repeat' first|refine Ops.tag rfl ?_|(refine OpsT.go ?_;(conv=>arg 7;whnf))|((with_reducible refine Stp.isNe ?_);first|refine Stp.neT ?_)|refine Stp.pure rfl ?_|refine Ops.nil ?_|((with_reducible refine Look.id ?_);refine Look.at ?_;try (conv=>arg 7;whnf))|((with_reducible refine Side.id ?_);first|refine Side.auto ?_)|((with_reducible refine Br.id ?_);first|(with_reducible first|refine br_true rfl ?_))|((with_reducible refine SemWp.id ?_);first|refine sem_seq ?_|refine sem_region rfl ?_|refine sem_cond rfl ?_|refine sem_block ?_|refine sem_ret ?_)|((with_reducible refine qThen.id ?_);first|refine qThen.go ?_|refine qThen.ret ?_)|((with_reducible refine hinBlock.id ?_);first|refine hinBlock.ret ?_)|refine Stp.valS ?_|refine Stp.look ?_|((with_reducible refine BodyR.id ?_);first|refine BodyR.ret ?_)|((with_reducible refine ResG.id ?_);first|refine ResG.tmp rfl ?_|refine ResG.nil ?_)
 refine Fin.mk ?_
 refine ⟨WeakerE.refl _,Subp.tk⟩
theorem rterm_er (l:List Tk):ErS 70 l:=by
 refine ⟨fun q rt i d e a acc hi hq he=>?_⟩
 have U:=(runary_er l).er q rt i d e a acc hi hq he
 unfold rs ow at *
 refine HCalls.to (sem_calls' cx (fn:=Tryz.f70) rfl rfl rfl rfl ?_)
 repeat' first|refine Ops.tag rfl ?_|(refine OpsT.go ?_;(conv=>arg 7;whnf))|refine Stp.pure rfl ?_|refine PutK.mk' rfl ?_|refine Ops.nil ?_|((with_reducible refine Side.id ?_);first|refine Side.auto ?_)|((with_reducible refine SemWp.id ?_);first|refine sem_seq ?_|refine sem_region rfl ?_|refine sem_block ?_)|((with_reducible refine qThen.id ?_);first|refine qThen.go ?_)|refine Stp.call ?_|((with_reducible refine CallWp.id ?_);first|(refine callA cx (U) ?_;(conv=>whnf)))
 refine sem_loop cx (ι:=Unit) (fun _=>True) (fun _=>[(0,.sure,.ptr q 0),(1,.sure,.list (.own rt 0) 5 (acc.map encN))]) (fun _=>[(q,.cells [LTk l,ii i,ii d,ii e,ii a] 56),(rt,.tok acc.length)]) (fun _=>0) () trivial (by repeat' first|exact Sub.nil _|refine Sub.auto ?_) Subp.tk ?_
 rintro _ _
 repeat' first|refine Ops.tag rfl ?_|(with_reducible first|refine OpsT.andF ?_|refine OpsT.no ?_)|(refine OpsT.go ?_;(conv=>arg 7;whnf))|(with_reducible first|refine Stp.andF ?_)|((with_reducible refine Stp.isEq ?_);first|refine Stp.eqF ?_)|refine Stp.pure rfl ?_|refine PutK.mk' rfl ?_|refine Ops.nil ?_|((with_reducible refine Look.id ?_);refine Look.at ?_;try (conv=>arg 7;whnf))|((with_reducible refine Side.id ?_);first|refine Side.auto ?_)|((with_reducible refine Br.id ?_);first|(with_reducible first|refine br_false rfl ?_))|((with_reducible refine SemWp.id ?_);first|refine sem_seq ?_|refine sem_region rfl ?_|refine sem_cond rfl ?_|refine sem_exit ?_|refine sem_ret ?_)|((with_reducible refine qThen.id ?_);first|refine qThen.go ?_)|refine Stp.valS ?_|refine Stp.look ?_|((with_reducible refine BodyR.id ?_);first|refine BodyR.ret ?_)|((with_reducible refine ResG.id ?_);first|refine ResG.tmp rfl ?_|refine ResG.nil ?_)
 refine Fin.mk ?_
 refine ⟨WeakerE.refl _,Subp.tk⟩
theorem rexpr_er (l:List Tk):ErS 62 l:=by
 refine ⟨fun q rt i d e a acc hi hq he=>?_⟩
 have U:=(rterm_er l).er q rt i d e a acc hi hq he
 unfold rs ow at *
 refine HCalls.to (sem_calls' cx (fn:=Tryz.f62) rfl rfl rfl rfl ?_)
 repeat' first|refine Ops.tag rfl ?_|(refine OpsT.go ?_;(conv=>arg 7;whnf))|refine Stp.pure rfl ?_|refine PutK.mk' rfl ?_|refine Ops.nil ?_|((with_reducible refine Side.id ?_);first|refine Side.auto ?_)|((with_reducible refine SemWp.id ?_);first|refine sem_seq ?_|refine sem_region rfl ?_|refine sem_block ?_)|((with_reducible refine qThen.id ?_);first|refine qThen.go ?_)|refine Stp.call ?_|((with_reducible refine CallWp.id ?_);first|(refine callA cx (U) ?_;(conv=>whnf)))
 refine sem_loop cx (ι:=Unit) (fun _=>True) (fun _=>[(0,.sure,.ptr q 0),(1,.sure,.list (.own rt 0) 5 (acc.map encN))]) (fun _=>[(q,.cells [LTk l,ii i,ii d,ii e,ii a] 56),(rt,.tok acc.length)]) (fun _=>0) () trivial (by repeat' first|exact Sub.nil _|refine Sub.auto ?_) Subp.tk ?_
 rintro _ _
 repeat' first|refine Ops.tag rfl ?_|(with_reducible first|refine OpsT.andF ?_|refine OpsT.no ?_)|(refine OpsT.go ?_;(conv=>arg 7;whnf))|(with_reducible first|refine Stp.andF ?_)|((with_reducible refine Stp.isEq ?_);first|refine Stp.eqF ?_)|refine Stp.pure rfl ?_|refine PutK.mk' rfl ?_|refine Ops.nil ?_|((with_reducible refine Look.id ?_);refine Look.at ?_;try (conv=>arg 7;whnf))|((with_reducible refine Side.id ?_);first|refine Side.auto ?_)|((with_reducible refine Br.id ?_);first|(with_reducible first|refine br_false rfl ?_))|((with_reducible refine SemWp.id ?_);first|refine sem_seq ?_|refine sem_region rfl ?_|refine sem_cond rfl ?_|refine sem_exit ?_|refine sem_ret ?_)|((with_reducible refine qThen.id ?_);first|refine qThen.go ?_)|refine Stp.valS ?_|refine Stp.look ?_|((with_reducible refine BodyR.id ?_);first|refine BodyR.ret ?_)|((with_reducible refine ResG.id ?_);first|refine ResG.tmp rfl ?_|refine ResG.nil ?_)
 refine Fin.mk ?_
 refine ⟨WeakerE.refl _,Subp.tk⟩
theorem rconj_er (l:List Tk):ErS 63 l:=by
 refine ⟨fun q rt i d e a acc hi hq he=>?_⟩
 have U:=(rlit_er l).er q rt i d e a acc hi hq he
 have T:=rtake_er q l i d e a tAnd hi he
 unfold rs ow at *
 refine HCalls.to (sem_calls' cx (fn:=Tryz.f63) rfl rfl rfl rfl ?_)
 repeat' first|refine Ops.tag rfl ?_|(refine OpsT.go ?_;(conv=>arg 7;whnf))|refine Stp.pure rfl ?_|refine PutK.mk' rfl ?_|refine Ops.nil ?_|((with_reducible refine Side.id ?_);first|refine Side.auto ?_)|((with_reducible refine SemWp.id ?_);first|refine sem_seq ?_|refine sem_region rfl ?_|refine sem_block ?_)|((with_reducible refine qThen.id ?_);first|refine qThen.go ?_)|refine Stp.call ?_|((with_reducible refine CallWp.id ?_);first|(refine callA cx (U) ?_;(conv=>whnf)))
 refine sem_loop cx (ι:=Unit) (fun _=>True) (fun _=>[(0,.sure,.ptr q 0),(1,.sure,.list (.own rt 0) 5 (acc.map encN))]) (fun _=>[(q,.cells [LTk l,ii i,ii d,ii e,ii a] 56),(rt,.tok acc.length)]) (fun _=>0) () trivial (by repeat' first|exact Sub.nil _|refine Sub.auto ?_) Subp.tk ?_
 rintro _ _
 repeat' first|refine Ops.tag rfl ?_|(refine OpsT.go ?_;(conv=>arg 7;whnf))|refine Stp.pure rfl ?_|refine PutK.mk' rfl ?_|refine Ops.nil ?_|((with_reducible refine Side.id ?_);first|refine Side.auto ?_)|((with_reducible refine Br.id ?_);first|(with_reducible first|refine br_false rfl ?_))|((with_reducible refine SemWp.id ?_);first|refine sem_seq ?_|refine sem_region rfl ?_|refine sem_cond rfl ?_|refine sem_exit ?_|refine sem_ret ?_)|((with_reducible refine qThen.id ?_);first|refine qThen.go ?_)|refine Stp.call ?_|((with_reducible refine CallWp.id ?_);first|(refine callA cx (T) ?_;(conv=>whnf)))|((with_reducible refine BodyR.id ?_);first|refine BodyR.ret ?_)|((with_reducible refine ResG.id ?_);first|refine ResG.tmp rfl ?_|refine ResG.nil ?_)
 refine Fin.mk ?_
 refine ⟨WeakerE.refl _,Subp.tk⟩
theorem rcond_er (l:List Tk):ErS 53 l:=by
 refine ⟨fun q rt i d e a acc hi hq he=>?_⟩
 have U:=(rconj_er l).er q rt i d e a acc hi hq he
 have T:=rtake_er q l i d e a tOr hi he
 unfold rs ow at *
 refine HCalls.to (sem_calls' cx (fn:=Tryz.f53) rfl rfl rfl rfl ?_)
 repeat' first|refine Ops.tag rfl ?_|(refine OpsT.go ?_;(conv=>arg 7;whnf))|refine Stp.pure rfl ?_|refine PutK.mk' rfl ?_|refine Ops.nil ?_|((with_reducible refine Side.id ?_);first|refine Side.auto ?_)|((with_reducible refine SemWp.id ?_);first|refine sem_seq ?_|refine sem_region rfl ?_|refine sem_block ?_)|((with_reducible refine qThen.id ?_);first|refine qThen.go ?_)|refine Stp.call ?_|((with_reducible refine CallWp.id ?_);first|(refine callA cx (U) ?_;(conv=>whnf)))
 refine sem_loop cx (ι:=Unit) (fun _=>True) (fun _=>[(0,.sure,.ptr q 0),(1,.sure,.list (.own rt 0) 5 (acc.map encN))]) (fun _=>[(q,.cells [LTk l,ii i,ii d,ii e,ii a] 56),(rt,.tok acc.length)]) (fun _=>0) () trivial (by repeat' first|exact Sub.nil _|refine Sub.auto ?_) Subp.tk ?_
 rintro _ _
 repeat' first|refine Ops.tag rfl ?_|(refine OpsT.go ?_;(conv=>arg 7;whnf))|refine Stp.pure rfl ?_|refine PutK.mk' rfl ?_|refine Ops.nil ?_|((with_reducible refine Side.id ?_);first|refine Side.auto ?_)|((with_reducible refine Br.id ?_);first|(with_reducible first|refine br_false rfl ?_))|((with_reducible refine SemWp.id ?_);first|refine sem_seq ?_|refine sem_region rfl ?_|refine sem_cond rfl ?_|refine sem_exit ?_|refine sem_ret ?_)|((with_reducible refine qThen.id ?_);first|refine qThen.go ?_)|refine Stp.call ?_|((with_reducible refine CallWp.id ?_);first|(refine callA cx (T) ?_;(conv=>whnf)))|((with_reducible refine BodyR.id ?_);first|refine BodyR.ret ?_)|((with_reducible refine ResG.id ?_);first|refine ResG.tmp rfl ?_|refine ResG.nil ?_)
 refine Fin.mk ?_
 refine ⟨WeakerE.refl _,Subp.tk⟩
end Go.Proofs.Hk

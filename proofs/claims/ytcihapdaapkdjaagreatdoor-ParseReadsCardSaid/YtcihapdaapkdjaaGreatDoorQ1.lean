import Derived.Test.YtcihapdaapkdjaaGreatDoorP1
import Derived.Test.YtcihapdaapkdjaaGreatDoorH30
import Derived.Test.YtcihapdaapkdjaaGreatDoorH41
set_option linter.unusedSimpArgs false
set_option linter.unusedVariables false
set_option maxRecDepth 4000
namespace Go.Proofs.Hk
open Go Go.Proofs
def LTk (l:List Tk):HV:=.list .no 3 (l.map tokD)
def tokV (k:Int) (t:ByteArray) (p:Int):HV:=.agg [ii k,ss t,ii p]
def rd (l:List Tk) (i d b:Int):Res:=.cells [LTk l,ii i,ii d,ii b] 47
def failV:HV:=.iface 78 (.agg [])
abbrev To (f:FuncId) (xs:List HV) (s:HS) (r:HEnd) (s2:HS):Prop:=HCalls cx.P f xs s fun e st=>e=r∧st=s2
theorem getD_tk {l:List Tk} {i:Nat} (h:i < l.length):(l.map tokD).getD (i:Int).toNat default=tokV (tk l i).kind (tk l i).text (tk l i).pos:=by
 simp [List.getD_eq_getElem?_getD,h,tokD,tokV,tk]
/-- What the parser leans on: the last token is the end, and the only one. -/
structure WfT (l:List Tk):Prop where
 more:∀ i,i < l.length→(tk l i).kind≠0→i+1 < l.length
 len:l.length≤8193
theorem isT_kind {l:List Tk} {i:Nat} {s:ByteArray} (h:isT l i s=true):(tk l i).kind≠0:=by
 simp only [isT,Bool.and_eq_true,Bool.or_eq_true,beq_iff_eq] at h
 rcases h.1 with h|h<;>omega
theorem now_spec (r:Nat) (l:List Tk) (i:Nat) (d b:Int) (hi:i < l.length):To 11 [.ptr r 0] [(r,rd l i d b)] (.ret (tokV (tk l i).kind (tk l i).text (tk l i).pos)) [(r,rd l i d b)]:=by
 have g:=getD_tk hi
 have m:(l.map tokD).length=l.length:=by simp
 unfold rd
 refine HCalls.to (sem_calls' cx (fn:=Tryz.f11) rfl rfl rfl rfl ?_)
 generalize (tk l i).kind=k at *
 generalize (tk l i).text=t at *
 generalize ((tk l i).pos:Int)=p at *
 repeat' first|(refine drawE' cx [(_,_)] [(_,_)] [10] (List.Perm.refl _) (by decide +kernel) rfl ?_)|refine Ops.tag rfl ?_|(refine OpsT.go ?_;(conv=>arg 7;whnf))|refine PutK.mk' rfl ?_|refine Ops.nil ?_|(refine DOps.cons rfl rfl ?_;(conv=>arg 7;whnf))|refine DStp.pure rfl ?_|refine PutD.mk' rfl ?_|refine DOps.nil rfl ?_|((with_reducible refine Look.id ?_);refine Look.at ?_;try (conv=>arg 7;whnf))|((with_reducible refine Side.id ?_);first|refine Side.auto ?_)|((with_reducible refine SemWp.id ?_);first|refine sem_seq ?_|refine sem_region rfl ?_|refine sem_ret ?_|refine sem_draw ?_)|((with_reducible refine qThen.id ?_);first|refine qThen.go ?_)|refine Stp.eff ?_|refine DStp.valS ?_|refine DStp.look ?_|(refine newN (fun r hr=>?_);simp only [keys,List.nil_append,List.cons_append,List.map_cons,List.map_nil,List.mem_cons,List.not_mem_nil,not_or,or_false,not_false_eq_true] at hr)|((with_reducible refine BodyR.id ?_);first|refine BodyR.ret ?_)|((with_reducible refine ResG.id ?_);first|refine ResG.cell rfl ?_|refine ResG.nil ?_)|((with_reducible refine LoadIs.id ?_);first|refine LoadIs.ag rfl rfl rfl ?_)|(refine DOps.turn rfl rfl rfl ?_;(conv=>arg 7;whnf))|refine TStp.look ?_|rw [g]|refine TStp.upd [(_,.cells _ _)] rfl rfl HsetIs.hit ?_
 refine Fin.mk ⟨WeakerE.refl _,Subp.tk⟩
theorem fail_spec (r:Nat) (l:List Tk) (i d b e:Int):To 41 [.ptr r 0,ii e] [(r,rd l i d b)] (.pan failV) [(r,rd l i d e)]:=by
 unfold rd
 refine HCalls.to (sem_calls' cx (fn:=Tryz.f41) rfl rfl rfl rfl ?_)
 repeat' first|refine Ops.tag rfl ?_|(refine OpsT.go ?_;(conv=>arg 7;whnf))|refine Stp.pure rfl ?_|((with_reducible refine PutK.isSet ?_);refine PutK.st ?_)|refine PutK.mk' rfl ?_|refine Ops.nil ?_|((with_reducible refine Look.id ?_);refine Look.at ?_;try (conv=>arg 7;whnf))|((with_reducible refine Side.id ?_);first|refine Side.auto ?_)|((with_reducible refine SemWp.id ?_);first|refine sem_seq ?_|refine sem_region rfl ?_)|((with_reducible refine qThen.id ?_);first|refine qThen.go ?_)|refine Stp.look ?_|refine Stp.eff ?_|refine Stp.pan ?_|((with_reducible refine BodyR.id ?_);first|refine BodyR.pan ?_)|((with_reducible refine Upd.id ?_);first|(refine Upd.lit rfl ?_;(conv=>whnf)))
 exact Fin.mk ⟨WeakerE.refl _,Subp.of_eq rfl⟩
theorem next_spec (r:Nat) (l:List Tk) (i:Nat) (d b:Int) (hi:i+1 < l.length) (hl:l.length≤8193):To 42 [.ptr r 0] [(r,rd l i d b)] (.ret (tokV (tk l i).kind (tk l i).text (tk l i).pos)) [(r,rd l (i+1:Nat) d b)]:=by
 have N:=now_spec r l i d b (by omega)
 have m:(l.map tokD).length=l.length:=by simp
 unfold rd at *
 refine HCalls.to (sem_calls' cx (fn:=Tryz.f42) rfl rfl rfl rfl ?_)
 repeat' first|refine Ops.tag rfl ?_|(refine OpsT.go ?_;(conv=>arg 7;whnf))|((with_reducible refine Stp.isSum ?_);refine Stp.sum ?_)|refine Stp.pure rfl ?_|((with_reducible refine PutK.isSet ?_);refine PutK.set (by repeat first|exact HsetIs.hit|apply HsetIs.miss (by first|(apply Ne.symm;assumption)|omega)) ?_)|refine PutK.mk' rfl ?_|refine Ops.nil ?_|(refine DOps.cons rfl rfl ?_;(conv=>arg 7;whnf))|((with_reducible refine DStp.isSum ?_);refine DStp.sum ?_)|((with_reducible refine DStp.isDec ?_);first|refine DStp.decT ?_)|refine DStp.pure rfl ?_|refine DOps.nil rfl ?_|((with_reducible refine Look.id ?_);refine Look.auto ?_ (by repeat first|exact HGet.hit|apply HGet.miss (by first|(apply Ne.symm;assumption)|omega));try (conv=>arg 7;whnf))|((with_reducible refine Side.id ?_);first|refine Side.auto ?_)|((with_reducible refine Br.id ?_);first|(with_reducible first|refine br_true rfl ?_))|((with_reducible refine SemWp.id ?_);first|refine sem_seq ?_|refine sem_region rfl ?_|refine sem_cond rfl ?_|refine sem_ret ?_|refine sem_draw ?_)|((with_reducible refine qThen.id ?_);first|refine qThen.go ?_)|refine Stp.valS ?_|refine Stp.look ?_|refine Stp.call ?_|refine Stp.eff ?_|refine DStp.valS ?_|refine DStp.look ?_|((with_reducible refine CallWp.id ?_);first|(refine callA cx (N) ?_;(conv=>whnf)))|((with_reducible refine DrawReg.id ?_);refine drawQ' cx (by decide +kernel) rfl ?_)|(refine newN (fun r hr=>?_);simp only [keys,List.nil_append,List.cons_append,List.map_cons,List.map_nil,List.mem_cons,List.not_mem_nil,not_or,or_false,not_false_eq_true] at hr)|((with_reducible refine BodyR.id ?_);first|refine BodyR.ret ?_)|((with_reducible refine ResG.id ?_);first|refine ResG.cell rfl ?_|refine ResG.nil ?_)|((with_reducible refine LoadIs.id ?_);first|refine LoadIs.agg (by repeat first|exact HGet.hit|apply HGet.miss (by first|(apply Ne.symm;assumption)|omega)) rfl rfl rfl ?_)|((with_reducible refine Upd.id ?_);first|(refine Upd.lit rfl ?_;(conv=>whnf)))
 refine Fin.mk ?_
 refine ⟨WeakerE.refl _,Subp.tk⟩
theorem is_spec (r:Nat) (l:List Tk) (i:Nat) (d b:Int) (s:ByteArray) (hi:i < l.length):To 43 [.ptr r 0,ss s] [(r,rd l i d b)] (.ret (bb (isT l i s))) [(r,rd l i d b)]:=by
 have N:=now_spec r l i d b hi
 have e:isT l i s=((((tk l i).kind == 4)||((tk l i).kind == 3)) && strEq (tk l i).text s):=rfl
 unfold rd at *
 rw [e]
 generalize (tk l i).kind=k at *
 generalize (tk l i).text=t at *
 generalize ((tk l i).pos:Int)=p at *
 clear e
 refine HCalls.to (sem_calls' cx (fn:=Tryz.f43) rfl rfl rfl rfl ?_)
 repeat' first|refine Ops.tag rfl ?_|(refine OpsT.go ?_;(conv=>arg 7;whnf))|refine Stp.pure rfl ?_|((with_reducible refine PutK.isSet ?_);refine PutK.st ?_)|refine PutK.mk' rfl ?_|refine Ops.nil ?_|((with_reducible refine Look.id ?_);refine Look.at ?_;try (conv=>arg 7;whnf))|((with_reducible refine Side.id ?_);first|refine Side.auto ?_)|((with_reducible refine SemWp.id ?_);first|refine sem_seq ?_|refine sem_region rfl ?_|refine sem_ret ?_)|((with_reducible refine qThen.id ?_);first|refine qThen.go ?_)|refine Stp.valS ?_|refine Stp.valSC ?_|refine Stp.look ?_|refine Stp.call ?_|refine Stp.eff ?_|((with_reducible refine CallWp.id ?_);first|(refine callA cx (N) ?_;(conv=>whnf)))|(refine newN (fun r hr=>?_);simp only [keys,List.nil_append,List.cons_append,List.map_cons,List.map_nil,List.mem_cons,List.not_mem_nil,not_or,or_false,not_false_eq_true] at hr)|((with_reducible refine BodyR.id ?_);first|refine BodyR.ret ?_)|((with_reducible refine ResG.id ?_);first|refine ResG.tmp rfl ?_|refine ResG.nil ?_)|((with_reducible refine Upd.id ?_);first|(refine Upd.lit rfl ?_;(conv=>whnf)))
 refine Fin.mk ?_
 refine ⟨WeakerE.refl _,Subp.tk⟩
theorem may_yes (r:Nat) (l:List Tk) (i:Nat) (d b:Int) (s:ByteArray) (wf:WfT l) (hi:i < l.length) (h:isT l i s=true):To 29 [.ptr r 0,ss s] [(r,rd l i d b)] (.ret (bb true)) [(r,rd l (i+1:Nat) d b)]:=by
 have I:=is_spec r l i d b s hi
 have N:=next_spec r l i d b (wf.more i hi (isT_kind h)) wf.len
 rw [h] at I
 unfold rd at *
 refine HCalls.to (sem_calls' cx (fn:=Tryz.f29) rfl rfl rfl rfl ?_)
 repeat' first|refine Ops.tag rfl ?_|(refine OpsT.go ?_;(conv=>arg 7;whnf))|(with_reducible first|refine Stp.notT ?_)|refine Stp.pure rfl ?_|refine PutK.mk' rfl ?_|refine Ops.nil ?_|((with_reducible refine Side.id ?_);first|refine Side.auto ?_)|((with_reducible refine Br.id ?_);first|(with_reducible first|refine br_false rfl ?_))|((with_reducible refine SemWp.id ?_);first|refine sem_seq ?_|refine sem_region rfl ?_|refine sem_cond rfl ?_|refine sem_ret ?_|refine sem_skip ?_)|((with_reducible refine qThen.id ?_);first|refine qThen.go ?_)|refine Stp.call ?_|((with_reducible refine CallWp.id ?_);first|(refine callA cx (I) ?_;(conv=>whnf))|(refine callA cx (N) ?_;(conv=>whnf)))|((with_reducible refine BodyR.id ?_);first|refine BodyR.ret ?_)|((with_reducible refine ResG.id ?_);first|refine ResG.tmp rfl ?_|refine ResG.nil ?_)
 refine Fin.mk ?_
 refine ⟨WeakerE.refl _,Subp.tk⟩
theorem may_no (r:Nat) (l:List Tk) (i:Nat) (d b:Int) (s:ByteArray) (hi:i < l.length) (h:isT l i s=false):To 29 [.ptr r 0,ss s] [(r,rd l i d b)] (.ret (bb false)) [(r,rd l i d b)]:=by
 have I:=is_spec r l i d b s hi
 rw [h] at I
 unfold rd at *
 refine HCalls.to (sem_calls' cx (fn:=Tryz.f29) rfl rfl rfl rfl ?_)
 repeat' first|refine Ops.tag rfl ?_|(refine OpsT.go ?_;(conv=>arg 7;whnf))|(with_reducible first|refine Stp.notF ?_)|refine Stp.pure rfl ?_|refine PutK.mk' rfl ?_|refine Ops.nil ?_|((with_reducible refine Side.id ?_);first|refine Side.auto ?_)|((with_reducible refine Br.id ?_);first|(with_reducible first|refine br_true rfl ?_))|((with_reducible refine SemWp.id ?_);first|refine sem_seq ?_|refine sem_region rfl ?_|refine sem_cond rfl ?_|refine sem_ret ?_)|((with_reducible refine qThen.id ?_);first|refine qThen.go ?_|refine qThen.ret ?_)|refine Stp.call ?_|((with_reducible refine CallWp.id ?_);first|(refine callA cx (I) ?_;(conv=>whnf)))|((with_reducible refine BodyR.id ?_);first|refine BodyR.ret ?_)|((with_reducible refine ResG.id ?_);first|refine ResG.tmp rfl ?_|refine ResG.nil ?_)
 refine Fin.mk ?_
 refine ⟨WeakerE.refl _,Subp.tk⟩
theorem must_yes (r:Nat) (l:List Tk) (i:Nat) (d b:Int) (s:ByteArray) (wf:WfT l) (hi:i < l.length) (h:isT l i s=true):To 25 [.ptr r 0,ss s] [(r,rd l i d b)] (.ret (.tup [])) [(r,rd l (i+1:Nat) d b)]:=by
 have M:=may_yes r l i d b s wf hi h
 unfold rd at *
 refine HCalls.to (sem_calls' cx (fn:=Tryz.f25) rfl rfl rfl rfl ?_)
 repeat' first|refine Ops.tag rfl ?_|(refine OpsT.go ?_;(conv=>arg 7;whnf))|(with_reducible first|refine Stp.notT ?_)|refine Stp.pure rfl ?_|refine PutK.mk' rfl ?_|refine Ops.nil ?_|((with_reducible refine Side.id ?_);first|refine Side.auto ?_)|((with_reducible refine Br.id ?_);first|(with_reducible first|refine br_false rfl ?_))|((with_reducible refine SemWp.id ?_);first|refine sem_seq ?_|refine sem_region rfl ?_|refine sem_cond rfl ?_|refine sem_skip ?_)|((with_reducible refine qThen.id ?_);first|refine qThen.go ?_)|refine Stp.call ?_|((with_reducible refine CallWp.id ?_);first|(refine callA cx (M) ?_;(conv=>whnf)))|((with_reducible refine BodyR.id ?_);first|refine BodyR.ret ?_|refine BodyR.go ?_)|((with_reducible refine ResG.id ?_);first|refine ResG.nil ?_)
 refine Fin.mk ?_
 refine ⟨WeakerE.refl _,Subp.tk⟩
theorem must_no (r:Nat) (l:List Tk) (i:Nat) (d b:Int) (s:ByteArray) (hi:i < l.length) (h:isT l i s=false):To 25 [.ptr r 0,ss s] [(r,rd l i d b)] (.pan failV) [(r,rd l i d 4)]:=by
 have M:=may_no r l i d b s hi h
 have F:=fail_spec r l i d b 4
 unfold rd at *
 refine HCalls.to (sem_calls' cx (fn:=Tryz.f25) rfl rfl rfl rfl ?_)
 repeat' first|refine Ops.tag rfl ?_|(refine OpsT.go ?_;(conv=>arg 7;whnf))|(with_reducible first|refine Stp.notF ?_)|refine Stp.pure rfl ?_|refine PutK.mk' rfl ?_|refine Ops.nil ?_|((with_reducible refine Side.id ?_);first|refine Side.auto ?_)|((with_reducible refine Br.id ?_);first|(with_reducible first|refine br_true rfl ?_))|((with_reducible refine SemWp.id ?_);first|refine sem_seq ?_|refine sem_region rfl ?_|refine sem_cond rfl ?_)|((with_reducible refine qThen.id ?_);first|refine qThen.go ?_)|refine Stp.call ?_|((with_reducible refine CallWp.id ?_);first|(refine callA cx (M) ?_;(conv=>whnf))|(refine callB cx (F) ?_;(conv=>whnf)))|((with_reducible refine BodyR.id ?_);first|refine BodyR.pan ?_)
 refine Fin.mk ?_
 refine ⟨WeakerE.refl _,Subp.tk⟩
theorem open_deep (r:Nat) (l:List Tk) (i:Nat) (d b:Int) (s:ByteArray) (hi:i < l.length) (h:isT l i s=true) (hd:50≤d):To 59 [.ptr r 0,ss s] [(r,rd l i d b)] (.pan failV) [(r,rd l i d 5)]:=by
 have I:=is_spec r l i d b s hi
 have F:=fail_spec r l i d b 5
 rw [h] at I
 unfold rd at *
 refine HCalls.to (sem_calls' cx (fn:=Tryz.f59) rfl rfl rfl rfl ?_)
 repeat' first|refine Ops.tag rfl ?_|((with_reducible first|refine OpsT.yes ?_);(conv=>arg 7;whnf))|(refine OpsT.go ?_;(conv=>arg 7;whnf))|(with_reducible first|refine Stp.andT ?_)|((with_reducible refine Stp.isDec ?_);first|refine Stp.decT ?_)|refine Stp.pure rfl ?_|refine PutK.mk' rfl ?_|refine Ops.nil ?_|((with_reducible refine Look.id ?_);refine Look.at ?_;try (conv=>arg 7;whnf))|((with_reducible refine Side.id ?_);first|refine Side.auto ?_)|((with_reducible refine Br.id ?_);first|(with_reducible first|refine br_true rfl ?_))|((with_reducible refine SemWp.id ?_);first|refine sem_seq ?_|refine sem_region rfl ?_|refine sem_cond rfl ?_)|((with_reducible refine qThen.id ?_);first|refine qThen.go ?_)|refine Stp.valS ?_|refine Stp.look ?_|refine Stp.call ?_|((with_reducible refine CallWp.id ?_);first|(refine callA cx (I) ?_;(conv=>whnf))|(refine callB cx (F) ?_;(conv=>whnf)))|((with_reducible refine BodyR.id ?_);first|refine BodyR.pan ?_)
 refine Fin.mk ?_
 refine ⟨WeakerE.refl _,Subp.tk⟩
theorem open_yes (r:Nat) (l:List Tk) (i:Nat) (d b:Int) (s:ByteArray) (wf:WfT l) (hi:i < l.length) (h:isT l i s=true) (hd:¬ 50≤d) (h0:0≤d):To 59 [.ptr r 0,ss s] [(r,rd l i d b)] (.ret (.tup [])) [(r,rd l (i+1:Nat) (d+1) b)]:=by
 have I:=is_spec r l i d b s hi
 have M:=must_yes r l i d b s wf hi h
 rw [h] at I
 unfold rd at *
 refine HCalls.to (sem_calls' cx (fn:=Tryz.f59) rfl rfl rfl rfl ?_)
 repeat' first|refine Ops.tag rfl ?_|((with_reducible first|refine OpsT.yes ?_);(conv=>arg 7;whnf))|(refine OpsT.go ?_;(conv=>arg 7;whnf))|(with_reducible first|refine Stp.andT ?_)|((with_reducible refine Stp.isSum ?_);refine Stp.sum ?_)|((with_reducible refine Stp.isDec ?_);first|refine Stp.decF ?_)|refine Stp.pure rfl ?_|((with_reducible refine PutK.isSet ?_);refine PutK.st ?_)|refine PutK.mk' rfl ?_|refine Ops.nil ?_|((with_reducible refine Look.id ?_);refine Look.at ?_;try (conv=>arg 7;whnf))|((with_reducible refine Side.id ?_);first|refine Side.auto ?_)|((with_reducible refine Br.id ?_);first|(with_reducible first|refine br_false rfl ?_))|((with_reducible refine SemWp.id ?_);first|refine sem_seq ?_|refine sem_region rfl ?_|refine sem_cond rfl ?_|refine sem_skip ?_)|((with_reducible refine qThen.id ?_);first|refine qThen.go ?_)|refine Stp.valS ?_|refine Stp.look ?_|refine Stp.call ?_|refine Stp.eff ?_|((with_reducible refine CallWp.id ?_);first|(refine callA cx (I) ?_;(conv=>whnf))|(refine callA cx (M) ?_;(conv=>whnf)))|((with_reducible refine BodyR.id ?_);first|refine BodyR.ret ?_|refine BodyR.go ?_)|((with_reducible refine ResG.id ?_);first|refine ResG.nil ?_)|((with_reducible refine Upd.id ?_);first|(refine Upd.lit rfl ?_;(conv=>whnf)))
 refine Fin.mk ?_
 refine ⟨WeakerE.refl _,Subp.tk⟩
theorem open_no (r:Nat) (l:List Tk) (i:Nat) (d b:Int) (s:ByteArray) (hi:i < l.length) (h:isT l i s=false):To 59 [.ptr r 0,ss s] [(r,rd l i d b)] (.pan failV) [(r,rd l i d 4)]:=by
 have I:=is_spec r l i d b s hi
 have M:=must_no r l i d b s hi h
 rw [h] at I
 unfold rd at *
 refine HCalls.to (sem_calls' cx (fn:=Tryz.f59) rfl rfl rfl rfl ?_)
 repeat' first|refine Ops.tag rfl ?_|(with_reducible first|refine OpsT.no ?_)|(refine OpsT.go ?_;(conv=>arg 7;whnf))|(with_reducible first|refine Stp.andF ?_)|refine Stp.pure rfl ?_|refine PutK.mk' rfl ?_|refine Ops.nil ?_|((with_reducible refine Side.id ?_);first|refine Side.auto ?_)|((with_reducible refine Br.id ?_);first|(with_reducible first|refine br_false rfl ?_))|((with_reducible refine SemWp.id ?_);first|refine sem_seq ?_|refine sem_region rfl ?_|refine sem_cond rfl ?_|refine sem_skip ?_)|((with_reducible refine qThen.id ?_);first|refine qThen.go ?_)|refine Stp.valS ?_|refine Stp.call ?_|((with_reducible refine CallWp.id ?_);first|(refine callA cx (I) ?_;(conv=>whnf))|(refine callB cx (M) ?_;(conv=>whnf)))|((with_reducible refine BodyR.id ?_);first|refine BodyR.pan ?_)
 refine Fin.mk ?_
 refine ⟨WeakerE.refl _,Subp.tk⟩
theorem close_non (r:Nat) (l:List Tk) (i:Nat) (d b:Int) (h0:0 < d) (h1:d≤100):To 60 [.ptr r 0,ss noS] [(r,rd l i d b)] (.ret (.tup [])) [(r,rd l i (d - 1) b)]:=by
 unfold rd at *
 refine HCalls.to (sem_calls' cx (fn:=Tryz.f60) rfl rfl rfl rfl ?_)
 have e:(!strEq noS ⟨#[]⟩)=false:=by rw [strEq_eq.2 (show noS=⟨#[]⟩ from rfl)];rfl
 repeat' first|(with_reducible first|refine Stp.rwB (e) ?_)|refine Ops.tag rfl ?_|(refine OpsT.go ?_;(conv=>arg 7;whnf))|((with_reducible refine Stp.isSum ?_);refine Stp.sum ?_)|refine Stp.pure rfl ?_|((with_reducible refine PutK.isSet ?_);refine PutK.st ?_)|refine PutK.mk' rfl ?_|refine Ops.nil ?_|((with_reducible refine Look.id ?_);refine Look.at ?_;try (conv=>arg 7;whnf))|((with_reducible refine Side.id ?_);first|refine Side.auto ?_)|((with_reducible refine Br.id ?_);first|(with_reducible first|refine br_false rfl ?_))|((with_reducible refine SemWp.id ?_);first|refine sem_seq ?_|refine sem_region rfl ?_|refine sem_cond rfl ?_|refine sem_skip ?_)|((with_reducible refine qThen.id ?_);first|refine qThen.go ?_)|refine Stp.valS ?_|refine Stp.look ?_|refine Stp.eff ?_|((with_reducible refine BodyR.id ?_);first|refine BodyR.ret ?_|refine BodyR.go ?_)|((with_reducible refine ResG.id ?_);first|refine ResG.nil ?_)|((with_reducible refine Upd.id ?_);first|(refine Upd.lit rfl ?_;(conv=>whnf)))
 refine Fin.mk ?_
 refine ⟨WeakerE.refl _,Subp.tk⟩
theorem close_yes (r:Nat) (l:List Tk) (i:Nat) (d b:Int) (s:ByteArray) (wf:WfT l) (hs:(!strEq s ⟨#[]⟩)=true) (hi:i < l.length) (h:isT l i s=true) (h0:0 < d) (h1:d≤100):To 60 [.ptr r 0,ss s] [(r,rd l i d b)] (.ret (.tup [])) [(r,rd l (i+1:Nat) (d - 1) b)]:=by
 have M:=must_yes r l i d b s wf hi h
 unfold rd at *
 refine HCalls.to (sem_calls' cx (fn:=Tryz.f60) rfl rfl rfl rfl ?_)
 repeat' first|(with_reducible first|refine Stp.rwB (hs) ?_)|refine Ops.tag rfl ?_|(refine OpsT.go ?_;(conv=>arg 7;whnf))|((with_reducible refine Stp.isSum ?_);refine Stp.sum ?_)|refine Stp.pure rfl ?_|((with_reducible refine PutK.isSet ?_);refine PutK.st ?_)|refine PutK.mk' rfl ?_|refine Ops.nil ?_|((with_reducible refine Look.id ?_);refine Look.at ?_;try (conv=>arg 7;whnf))|((with_reducible refine Side.id ?_);first|refine Side.auto ?_)|((with_reducible refine Br.id ?_);first|(with_reducible first|refine br_true rfl ?_))|((with_reducible refine SemWp.id ?_);first|refine sem_seq ?_|refine sem_region rfl ?_|refine sem_cond rfl ?_)|((with_reducible refine qThen.id ?_);first|refine qThen.go ?_)|refine Stp.valS ?_|refine Stp.look ?_|refine Stp.call ?_|refine Stp.eff ?_|((with_reducible refine CallWp.id ?_);first|(refine callA cx (M) ?_;(conv=>whnf)))|((with_reducible refine BodyR.id ?_);first|refine BodyR.ret ?_|refine BodyR.go ?_)|((with_reducible refine ResG.id ?_);first|refine ResG.nil ?_)|((with_reducible refine Upd.id ?_);first|(refine Upd.lit rfl ?_;(conv=>whnf)))
 refine Fin.mk ?_
 refine ⟨WeakerE.refl _,Subp.tk⟩
theorem close_no (r:Nat) (l:List Tk) (i:Nat) (d b:Int) (s:ByteArray) (hs:(!strEq s ⟨#[]⟩)=true) (hi:i < l.length) (h:isT l i s=false):To 60 [.ptr r 0,ss s] [(r,rd l i d b)] (.pan failV) [(r,rd l i d 4)]:=by
 have M:=must_no r l i d b s hi h
 unfold rd at *
 refine HCalls.to (sem_calls' cx (fn:=Tryz.f60) rfl rfl rfl rfl ?_)
 repeat' first|(with_reducible first|refine Stp.rwB (hs) ?_)|refine Ops.tag rfl ?_|(refine OpsT.go ?_;(conv=>arg 7;whnf))|refine Stp.pure rfl ?_|refine Ops.nil ?_|((with_reducible refine Side.id ?_);first|refine Side.auto ?_)|((with_reducible refine Br.id ?_);first|(with_reducible first|refine br_true rfl ?_))|((with_reducible refine SemWp.id ?_);first|refine sem_seq ?_|refine sem_region rfl ?_|refine sem_cond rfl ?_)|((with_reducible refine qThen.id ?_);first|refine qThen.go ?_)|refine Stp.call ?_|((with_reducible refine CallWp.id ?_);first|(refine callB cx (M) ?_;(conv=>whnf)))|((with_reducible refine BodyR.id ?_);first|refine BodyR.pan ?_)
 refine Fin.mk ?_
 refine ⟨WeakerE.refl _,Subp.tk⟩
theorem name_yes (r:Nat) (l:List Tk) (i:Nat) (d b:Int) (wf:WfT l) (hi:i < l.length) (h:(tk l i).kind=1):To 26 [.ptr r 0] [(r,rd l i d b)] (.ret (ss (tk l i).text)) [(r,rd l (i+1:Nat) d b)]:=by
 have I:=now_spec r l i d b hi
 have N:=next_spec r l i d b (wf.more i hi (by omega)) wf.len
 unfold rd at *
 rw [h] at I N
 generalize (tk l i).text=t at *
 generalize ((tk l i).pos:Int)=p at *
 refine HCalls.to (sem_calls' cx (fn:=Tryz.f26) rfl rfl rfl rfl ?_)
 repeat' first|refine Ops.tag rfl ?_|(refine OpsT.go ?_;(conv=>arg 7;whnf))|((with_reducible refine Stp.isNe ?_);first|refine Stp.neF ?_)|refine Stp.pure rfl ?_|refine PutK.mk' rfl ?_|refine Ops.nil ?_|((with_reducible refine Side.id ?_);first|refine Side.auto ?_)|((with_reducible refine Br.id ?_);first|(with_reducible first|refine br_false rfl ?_))|((with_reducible refine SemWp.id ?_);first|refine sem_seq ?_|refine sem_region rfl ?_|refine sem_cond rfl ?_|refine sem_ret ?_|refine sem_skip ?_)|((with_reducible refine qThen.id ?_);first|refine qThen.go ?_)|refine Stp.call ?_|((with_reducible refine CallWp.id ?_);first|(refine callA cx (I) ?_;(conv=>whnf))|(refine callA cx (N) ?_;(conv=>whnf)))|((with_reducible refine BodyR.id ?_);first|refine BodyR.ret ?_)|((with_reducible refine ResG.id ?_);first|refine ResG.tmp rfl ?_|refine ResG.nil ?_)
 refine Fin.mk ?_
 refine ⟨WeakerE.refl _,Subp.tk⟩
theorem name_no (r:Nat) (l:List Tk) (i:Nat) (d b:Int) (hi:i < l.length) (h:¬ (tk l i).kind=1):To 26 [.ptr r 0] [(r,rd l i d b)] (.pan failV) [(r,rd l i d 4)]:=by
 have I:=now_spec r l i d b hi
 have F:=fail_spec r l i d b 4
 unfold rd at *
 generalize (tk l i).kind=k at *
 generalize (tk l i).text=t at *
 generalize ((tk l i).pos:Int)=p at *
 refine HCalls.to (sem_calls' cx (fn:=Tryz.f26) rfl rfl rfl rfl ?_)
 repeat' first|refine Ops.tag rfl ?_|(refine OpsT.go ?_;(conv=>arg 7;whnf))|((with_reducible refine Stp.isNe ?_);first|refine Stp.neT ?_)|refine Stp.pure rfl ?_|refine PutK.mk' rfl ?_|refine Ops.nil ?_|((with_reducible refine Side.id ?_);first|refine Side.auto ?_)|((with_reducible refine Br.id ?_);first|(with_reducible first|refine br_true rfl ?_))|((with_reducible refine SemWp.id ?_);first|refine sem_seq ?_|refine sem_region rfl ?_|refine sem_cond rfl ?_)|((with_reducible refine qThen.id ?_);first|refine qThen.go ?_)|refine Stp.call ?_|((with_reducible refine CallWp.id ?_);first|(refine callA cx (I) ?_;(conv=>whnf))|(refine callB cx (F) ?_;(conv=>whnf)))|((with_reducible refine BodyR.id ?_);first|refine BodyR.pan ?_)
 refine Fin.mk ?_
 refine ⟨WeakerE.refl _,Subp.tk⟩
end Go.Proofs.Hk

set_option linter.unusedSimpArgs false
set_option linter.unusedVariables false
set_option maxRecDepth 4000
namespace Go.Proofs.Hk
open Go Go.Proofs
theorem leaf_spec (k n:Int) (s:ByteArray) (a b:Int):To 75 [encN' k n s a b] [] (.ret (.list .full 5 [encN' k n s (-1) (-1)])) []:=by
 refine HCalls.to (sem_calls' cx (fn:=Tryz.f75) rfl rfl rfl rfl ?_)
 repeat' first|refine Ops.tag rfl ?_|(refine OpsT.go ?_;(conv=>arg 7;whnf))|refine Stp.pure rfl ?_|((with_reducible refine PutK.isSet ?_);refine PutK.st ?_)|refine PutK.mk' rfl ?_|refine Ops.nil ?_|((with_reducible refine Look.id ?_);refine Look.at ?_;try (conv=>arg 7;whnf))|((with_reducible refine SemWp.id ?_);first|refine sem_seq ?_|refine sem_region rfl ?_|refine sem_ret ?_)|((with_reducible refine qThen.id ?_);first|refine qThen.go ?_)|refine Stp.look ?_|refine Stp.eff ?_|(refine newN (fun r hr=>?_);simp only [keys,List.nil_append,List.cons_append,List.map_cons,List.map_nil,List.mem_cons,List.not_mem_nil,not_or,or_false,not_false_eq_true] at hr)|((with_reducible refine BodyR.id ?_);first|refine BodyR.ret ?_)|((with_reducible refine ResG.id ?_);first|refine ResG.tmp rfl ?_|refine ResG.nil ?_)|((with_reducible refine Upd.id ?_);first|(refine Upd.lit rfl ?_;(conv=>whnf)))
 refine Fin.mk ?_
 refine ⟨WeakerE.refl _,Subp.tk⟩
theorem over_spec (rt:Nat) (k:Int) (l:List HV) (hl:l.length≤1000000) (h0:1≤l.length):To 74 [ii k,.list (.own rt 0) 5 l] [(rt,.tok l.length)] (.ret (.list (.own rt 0) 5 (l ++ [encN' k 0 noS ((l.length:Int) - 1) (-1)]))) [(rt,.tok (l.length+1))]:=by
 refine HCalls.to (sem_calls' cx (fn:=Tryz.f74) rfl rfl rfl rfl ?_)
 repeat' first|refine Ops.tag rfl ?_|(refine OpsT.go ?_;(conv=>arg 7;whnf))|((with_reducible refine Stp.isSum ?_);refine Stp.sum ?_)|refine Stp.pure rfl ?_|((with_reducible refine PutK.isSet ?_);refine PutK.st ?_)|refine PutK.mk' rfl ?_|refine Ops.nil ?_|((with_reducible refine Look.id ?_);refine Look.at ?_;try (conv=>arg 7;whnf))|((with_reducible refine Side.id ?_);first|refine Side.auto ?_)|((with_reducible refine SemWp.id ?_);first|refine sem_seq ?_|refine sem_region rfl ?_|refine sem_ret ?_)|((with_reducible refine qThen.id ?_);first|refine qThen.go ?_)|refine Stp.look ?_|refine Stp.eff ?_|((with_reducible refine BodyR.id ?_);first|refine BodyR.ret ?_)|((with_reducible refine ResG.id ?_);first|refine ResG.tmp rfl ?_|refine ResG.nil ?_)
 refine Fin.mk ?_
 refine ⟨WeakerE.refl _,Subp.tk⟩
theorem cloneN_spec (l:List HV) (h0:l≠[]) (hl:l.length≤1000000):ToOwn cx.P 73 [.list .no 5 l] [] 5 l []:=by
 refine HCalls.toOwn h0 (sem_calls' cx (fn:=Tryz.f73) rfl rfl rfl rfl ?_)
 repeat' first|refine Ops.tag rfl ?_|(refine OpsT.go ?_;(conv=>arg 7;whnf))|refine Stp.pure rfl ?_|refine PutK.mk' rfl ?_|refine Ops.nil ?_|((with_reducible refine Side.id ?_);first|refine Side.auto ?_)|((with_reducible refine Br.id ?_);first|refine br_split (fun _=>?_) (fun _=>?_))|((with_reducible refine SemWp.id ?_);first|refine sem_seq ?_|refine sem_region rfl ?_|refine sem_cond rfl ?_|refine sem_ret ?_|refine sem_skip ?_)|((with_reducible refine qThen.id ?_);first|refine qThen.go ?_|refine qThen.ret ?_)|refine Stp.eff ?_|(refine newN (fun r hr=>?_);simp only [keys,List.nil_append,List.cons_append,List.map_cons,List.map_nil,List.mem_cons,List.not_mem_nil,not_or,or_false,not_false_eq_true] at hr)|((with_reducible refine BodyR.id ?_);first|refine BodyR.ret ?_)|((with_reducible refine ResG.id ?_);first|refine ResG.tmp rfl ?_|refine ResG.nil ?_)|((with_reducible refine Grow2.id ?_);refine Grow2.own ?_)|refine newB (fun b hb=>?_)|refine grow_split (fun _=>?_) (fun _=>?_)
 ·rename_i h
  exact absurd (hb h) h0
 ·rename_i h
  exact absurd h h0
 ·simp only [List.length_nil,Nat.zero_add,List.nil_append]
  refine Fin.mk (.inl ⟨_,rfl,Subp.take (t:=?_) ?_⟩)
  rotate_left
  (repeat first|exact HTake.nil|(apply HTake.cons;focus (repeat first|exact HPick.hit|apply HPick.miss)))
def shN (o:Int) (n:ND):ND:=⟨n.kind,n.num,n.name,if 0≤n.a then n.a+o else n.a,if 0≤n.b then n.b+o else n.b⟩
def bothL (k:Int) (a b:List ND):List ND:=a ++ b.map (shN a.length) ++ [⟨k,0,noS,(a.length:Int) - 1,((a ++ b.map (shN a.length)).length:Int) - 1⟩]
theorem getD_nd {l:List ND} {i:Nat} (h:i < l.length):(l.map encN).getD (i:Int).toNat default=encN' l[i].kind l[i].num l[i].name l[i].a l[i].b:=by
 simp [List.getD_eq_getElem?_getD,h,encN]
set_option maxHeartbeats 2000000 in
theorem both_spec (k:Int) (a b:List ND) (h0:a≠[]) (ha:a.length≤1000000) (hb:b.length≤1000000) (hn:∀ n∈b,n.a≤1000000∧n.b≤1000000):ToOwn cx.P 68 [ii k,LNs a,LNs b] [] 5 ((bothL k a b).map encN) []:=by
 have ma:(a.map encN).length=a.length:=by simp
 have mb:(b.map encN).length=b.length:=by simp
 have C:=cloneN_spec (a.map encN) (by simpa using h0) (by omega)
 refine HCalls.toOwn (by simp [bothL]) (sem_calls' cx (fn:=Tryz.f68) rfl rfl rfl rfl ?_)
 repeat' first|refine Ops.tag rfl ?_|(refine OpsT.go ?_;(conv=>arg 7;whnf))|refine Stp.pure rfl ?_|refine PutK.mk' rfl ?_|refine Ops.nil ?_|((with_reducible refine Side.id ?_);first|refine Side.auto ?_)|((with_reducible refine SemWp.id ?_);first|refine sem_seq ?_|refine sem_region rfl ?_|refine sem_block ?_)|((with_reducible refine qThen.id ?_);first|refine qThen.go ?_)|refine Stp.call ?_|((with_reducible refine CallWp.id ?_);first|(refine callTO cx (C) (by repeat first|exact HTake.nil) (fun rt hrt=>?_);simp only [keys,List.nil_append,List.cons_append,List.map_cons,List.map_nil,List.mem_cons,List.not_mem_nil,not_or,or_false,not_false_eq_true] at hrt;(conv=>whnf)))
 refine sem_loop cx (ι:=Nat) (fun j=>j≤b.length) (fun j=>[(0,.sure,ii k),(1,.sure,LNs a),(7,.sure,.list (.own rt 0) 5 (a.map encN ++ ((b.take j).map (shN a.length)).map encN)),(12,.sure,LNs b),(13,.sure,ii b.length),(14,.sure,ii j)]) (fun j=>[(rt,.tok (a.length+j))]) (fun j=>b.length - j) 0 (Nat.zero_le _) (Sub.cons rfl rfl (Sub.cons rfl rfl (Sub.cons rfl (by simp) (Sub.cons rfl rfl (Sub.cons rfl (by rw [←mb];rfl) (Sub.cons rfl rfl (Sub.nil _))))))) (Subp.of_eq (by rw [ma];rfl)) ?_
 intro j j1
 have lj:(a.map encN ++ ((b.take j).map (shN a.length)).map encN).length=a.length+j:=by simp;omega
 by_cases hj:j < b.length
 ·have g:=getD_nd hj
  have t2:((b.take (j+1)).map (shN a.length)).map encN=((b.take j).map (shN a.length)).map encN ++ [encN (shN a.length b[j])]:=by rw [List.take_succ_eq_append_getElem hj,List.map_append,List.map_append];rfl
  have nb:=hn _ (List.getElem_mem hj)
  generalize b[j]=n at *
  obtain ⟨nk,nn,ns,na,nb'⟩:=n
  have nb1:na≤1000000∧nb'≤1000000:=nb
  change _=encN' nk nn ns na nb' at g
  by_cases h1:0≤na
  ·by_cases h2:0≤nb'
   ·have e:encN (shN a.length ⟨nk,nn,ns,na,nb'⟩)=encN' nk nn ns (na+(a.map encN).length) (nb'+(a.map encN).length):=by rw [ma];simp [encN,shN,h1,h2]
    clear C
    repeat' first|refine Ops.tag rfl ?_|(refine OpsT.go ?_;(conv=>arg 7;whnf))|((with_reducible refine Stp.isSum ?_);refine Stp.sum ?_)|((with_reducible refine Stp.isDec ?_);first|refine Stp.decT ?_)|refine Stp.pure rfl ?_|((with_reducible refine PutK.isSet ?_);refine PutK.st ?_)|refine PutK.mk' rfl ?_|refine Ops.nil ?_|((with_reducible refine Look.id ?_);refine Look.at ?_;try (conv=>arg 7;whnf))|((with_reducible refine Side.id ?_);first|refine Side.auto ?_)|((with_reducible refine Br.id ?_);first|(with_reducible first|refine br_true rfl ?_))|((with_reducible refine SemWp.id ?_);first|refine sem_seq ?_|refine sem_region rfl ?_|refine sem_cond rfl ?_|refine sem_block ?_|refine sem_skip ?_)|((with_reducible refine qThen.id ?_);first|refine qThen.go ?_)|((with_reducible refine hinBlock.id ?_);first|refine hinBlock.go ?_)|((with_reducible refine hround.id ?_);first|refine hround.go ?_)|refine Stp.valS ?_|refine Stp.look ?_|refine Stp.eff ?_|(refine newN (fun r hr=>?_);simp only [keys,List.nil_append,List.cons_append,List.map_cons,List.map_nil,List.mem_cons,List.not_mem_nil,not_or,or_false,not_false_eq_true] at hr)|((with_reducible refine Upd.id ?_);first|(refine Upd.lit rfl ?_;(conv=>whnf)))|rw [g]
    refine Fin.mk ⟨j+1,by omega,by omega,Sub.cons rfl rfl (Sub.cons rfl rfl (Sub.cons rfl (by rw [t2,e,←List.append_assoc];rfl) (Sub.cons rfl rfl (Sub.cons rfl rfl (Sub.cons rfl rfl (Sub.nil _)))))),Subp.tk⟩
   ·have e:encN (shN a.length ⟨nk,nn,ns,na,nb'⟩)=encN' nk nn ns (na+(a.map encN).length) nb':=by rw [ma];simp [encN,shN,h1,h2]
    clear C
    repeat' first|refine Ops.tag rfl ?_|(refine OpsT.go ?_;(conv=>arg 7;whnf))|((with_reducible refine Stp.isSum ?_);refine Stp.sum ?_)|((with_reducible refine Stp.isDec ?_);first|refine Stp.decT ?_|refine Stp.decF ?_)|refine Stp.pure rfl ?_|((with_reducible refine PutK.isSet ?_);refine PutK.st ?_)|refine PutK.mk' rfl ?_|refine Ops.nil ?_|((with_reducible refine Look.id ?_);refine Look.at ?_;try (conv=>arg 7;whnf))|((with_reducible refine Side.id ?_);first|refine Side.auto ?_)|((with_reducible refine Br.id ?_);first|(with_reducible first|refine br_true rfl ?_|refine br_false rfl ?_))|((with_reducible refine SemWp.id ?_);first|refine sem_seq ?_|refine sem_region rfl ?_|refine sem_cond rfl ?_|refine sem_block ?_|refine sem_skip ?_)|((with_reducible refine qThen.id ?_);first|refine qThen.go ?_)|((with_reducible refine hinBlock.id ?_);first|refine hinBlock.go ?_)|((with_reducible refine hround.id ?_);first|refine hround.go ?_)|refine Stp.valS ?_|refine Stp.look ?_|refine Stp.eff ?_|(refine newN (fun r hr=>?_);simp only [keys,List.nil_append,List.cons_append,List.map_cons,List.map_nil,List.mem_cons,List.not_mem_nil,not_or,or_false,not_false_eq_true] at hr)|((with_reducible refine Upd.id ?_);first|(refine Upd.lit rfl ?_;(conv=>whnf)))|rw [g]
    refine Fin.mk ⟨j+1,by omega,by omega,Sub.cons rfl rfl (Sub.cons rfl rfl (Sub.cons rfl (by rw [t2,e,←List.append_assoc];rfl) (Sub.cons rfl rfl (Sub.cons rfl rfl (Sub.cons rfl rfl (Sub.nil _)))))),Subp.tk⟩
  ·by_cases h2:0≤nb'
   ·have e:encN (shN a.length ⟨nk,nn,ns,na,nb'⟩)=encN' nk nn ns na (nb'+(a.map encN).length):=by rw [ma];simp [encN,shN,h1,h2]
    clear C
    repeat' first|refine Ops.tag rfl ?_|(refine OpsT.go ?_;(conv=>arg 7;whnf))|((with_reducible refine Stp.isSum ?_);refine Stp.sum ?_)|((with_reducible refine Stp.isDec ?_);first|refine Stp.decT ?_|refine Stp.decF ?_)|refine Stp.pure rfl ?_|((with_reducible refine PutK.isSet ?_);refine PutK.st ?_)|refine PutK.mk' rfl ?_|refine Ops.nil ?_|((with_reducible refine Look.id ?_);refine Look.at ?_;try (conv=>arg 7;whnf))|((with_reducible refine Side.id ?_);first|refine Side.auto ?_)|((with_reducible refine Br.id ?_);first|(with_reducible first|refine br_true rfl ?_|refine br_false rfl ?_))|((with_reducible refine SemWp.id ?_);first|refine sem_seq ?_|refine sem_region rfl ?_|refine sem_cond rfl ?_|refine sem_block ?_|refine sem_skip ?_)|((with_reducible refine qThen.id ?_);first|refine qThen.go ?_)|((with_reducible refine hinBlock.id ?_);first|refine hinBlock.go ?_)|((with_reducible refine hround.id ?_);first|refine hround.go ?_)|refine Stp.valS ?_|refine Stp.look ?_|refine Stp.eff ?_|(refine newN (fun r hr=>?_);simp only [keys,List.nil_append,List.cons_append,List.map_cons,List.map_nil,List.mem_cons,List.not_mem_nil,not_or,or_false,not_false_eq_true] at hr)|((with_reducible refine Upd.id ?_);first|(refine Upd.lit rfl ?_;(conv=>whnf)))|rw [g]
    refine Fin.mk ⟨j+1,by omega,by omega,Sub.cons rfl rfl (Sub.cons rfl rfl (Sub.cons rfl (by rw [t2,e,←List.append_assoc];rfl) (Sub.cons rfl rfl (Sub.cons rfl rfl (Sub.cons rfl rfl (Sub.nil _)))))),Subp.tk⟩
   ·have e:encN (shN a.length ⟨nk,nn,ns,na,nb'⟩)=encN' nk nn ns na nb':=by simp [encN,shN,h1,h2]
    clear C
    repeat' first|refine Ops.tag rfl ?_|(refine OpsT.go ?_;(conv=>arg 7;whnf))|((with_reducible refine Stp.isSum ?_);refine Stp.sum ?_)|((with_reducible refine Stp.isDec ?_);first|refine Stp.decT ?_|refine Stp.decF ?_)|refine Stp.pure rfl ?_|((with_reducible refine PutK.isSet ?_);refine PutK.st ?_)|refine PutK.mk' rfl ?_|refine Ops.nil ?_|((with_reducible refine Look.id ?_);refine Look.at ?_;try (conv=>arg 7;whnf))|((with_reducible refine Side.id ?_);first|refine Side.auto ?_)|((with_reducible refine Br.id ?_);first|(with_reducible first|refine br_true rfl ?_|refine br_false rfl ?_))|((with_reducible refine SemWp.id ?_);first|refine sem_seq ?_|refine sem_region rfl ?_|refine sem_cond rfl ?_|refine sem_block ?_|refine sem_skip ?_)|((with_reducible refine qThen.id ?_);first|refine qThen.go ?_)|((with_reducible refine hinBlock.id ?_);first|refine hinBlock.go ?_)|((with_reducible refine hround.id ?_);first|refine hround.go ?_)|refine Stp.valS ?_|refine Stp.look ?_|refine Stp.eff ?_|(refine newN (fun r hr=>?_);simp only [keys,List.nil_append,List.cons_append,List.map_cons,List.map_nil,List.mem_cons,List.not_mem_nil,not_or,or_false,not_false_eq_true] at hr)|((with_reducible refine Upd.id ?_);first|(refine Upd.lit rfl ?_;(conv=>whnf)))|rw [g]
    refine Fin.mk ⟨j+1,by omega,by omega,Sub.cons rfl rfl (Sub.cons rfl rfl (Sub.cons rfl (by rw [t2,e,←List.append_assoc];rfl) (Sub.cons rfl rfl (Sub.cons rfl rfl (Sub.cons rfl rfl (Sub.nil _)))))),Subp.tk⟩
 ·have:j=b.length:=by omega
  subst this
  have e:(bothL k a b).map encN=(a.map encN ++ ((b.take b.length).map (shN a.length)).map encN) ++ [encN' k 0 noS (((a.map encN).length:Int) - 1) (((a.map encN ++ ((b.take b.length).map (shN a.length)).map encN).length:Int) - 1)]:=by
   rw [List.take_length,ma]
   simp [bothL,encN]
  have el:((bothL k a b).map encN).length=a.length+b.length+1:=by simp [bothL];omega
  clear C
  repeat' first|refine Ops.tag rfl ?_|(refine OpsT.go ?_;(conv=>arg 7;whnf))|((with_reducible refine Stp.isSum ?_);refine Stp.sum ?_)|((with_reducible refine Stp.isDec ?_);first|refine Stp.decF ?_)|refine Stp.pure rfl ?_|((with_reducible refine PutK.isSet ?_);refine PutK.st ?_)|refine PutK.mk' rfl ?_|refine Ops.nil ?_|((with_reducible refine Look.id ?_);refine Look.at ?_;try (conv=>arg 7;whnf))|((with_reducible refine Side.id ?_);first|refine Side.auto ?_)|((with_reducible refine Br.id ?_);first|(with_reducible first|refine br_false rfl ?_))|((with_reducible refine SemWp.id ?_);first|refine sem_seq ?_|refine sem_region rfl ?_|refine sem_cond rfl ?_|refine sem_exit ?_|refine sem_ret ?_)|((with_reducible refine qThen.id ?_);first|refine qThen.go ?_)|refine Stp.look ?_|refine Stp.eff ?_|((with_reducible refine BodyR.id ?_);first|refine BodyR.ret ?_)|((with_reducible refine ResG.id ?_);first|refine ResG.tmp rfl ?_|refine ResG.nil ?_)
  refine Fin.mk (.inl ⟨rt,by rw [e];rfl,Subp.of_eq (by rw [el];rfl)⟩)
end Go.Proofs.Hk

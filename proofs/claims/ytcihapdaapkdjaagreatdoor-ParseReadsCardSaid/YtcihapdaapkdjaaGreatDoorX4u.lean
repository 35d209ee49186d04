import Derived.Test.YtcihapdaapkdjaaGreatDoorQ5
import Derived.Test.YtcihapdaapkdjaaGreatDoorX3d
import Derived.Test.YtcihapdaapkdjaaGreatDoorH41
set_option linter.unusedSimpArgs false
set_option linter.unusedVariables false
set_option maxRecDepth 4000
namespace Go.Proofs.Hk
open Go Go.Proofs
structure AllX (l:List Tk) (n:Nat):Prop where
 unary:ExA l n 76 .unary
 term:ExA l n 70 .term
 expr:ExA l n 62 .expr
 lit:ExA l n 71 .lit
 conj:ExA l n 63 .conj
 cond:ExA l n 53 .cond
theorem ow_snoc (rt:Nat) (l:List ND) (n:ND):ow rt (l ++ [n]) = .list (.own rt 0) 5 (l.map encN ++ [encN n]):=by unfold ow;rw [map_snoc]
theorem snoc_len (l:List ND) (n:ND):(l ++ [n]).length=l.length+1:=by simp
set_option maxHeartbeats 4000000 in
theorem ru_neg_deep (l:List Tk) (wf:WfN l) (n:Nat) (IH:AllX l n) (i:Nat) (d:Int) (hi:i < l.length) (h0:0≤d) (h1:d≤50) (q rt:Nat) (a:Int) (acc:List ND) (hq:q≠rt) (ha:acc.length≤i) (b0:isT l i (tc 45)=true) (hd:50≤d) {res} (h:(errR 5 i d:Res' Ex)=some res):ExG l q rt acc i d a 76 res:=by
 have wt:=wf.toWfT
 have wl:=wt.len
 have hq':rt≠q:=Ne.symm hq
 have g0:=getD_tk hi
 have ma:(acc.map encN).length=acc.length:=by simp
 cases h
 have I0:=ris_ok q l i d a (tc 45) hi
 rw [b0] at I0
 have O:=ropen_deep q l i d a (tc 45) hi b0 hd (by omega)
 have U:=(runary_er l).er q rt i (d+1) 5 (tk l i).pos acc hi hq (by decide)
 refine ExG.of ?_
 clear IH
 unfold rs ow at *
 refine sem_calls' cx (fn:=Tryz.f76) rfl rfl rfl rfl ?_
 repeat' first|(refine DN.alloc rfl rfl rfl rfl rfl rfl rfl rfl rfl ?_;skip)|((with_reducible refine DrawReg.id ?_);refine drawVoid (fun r hr=>?_);simp only [keys,List.nil_append,List.cons_append,List.map_cons,List.map_nil,List.mem_cons,List.not_mem_nil,not_or,or_false,not_false_eq_true] at hr;(repeat (obtain ⟨_,hr⟩:=hr));refine drawN cx [[(_,.void)]] rfl [[10,11]] [] [0,1,2,3,4,5,6,7,8,9,10,11] (by repeat first|exact HTake.nil|(apply HTake.cons;focus (repeat first|exact HPick.hit))) rfl (by decide +kernel) ?_)|(refine DN.quiet rfl rfl rfl rfl ?_;(conv=>arg 7;whnf))|(refine DN.turn rfl rfl rfl rfl rfl ?_;(conv=>arg 7;whnf))|(refine DN.nilF ?_;(conv=>whnf))|refine Ops.tag rfl ?_|(refine OpsT.go ?_;(conv=>arg 7;whnf))|((with_reducible refine Stp.isSum ?_);refine Stp.sum ?_)|((with_reducible refine Stp.isNe ?_);first|refine Stp.neF ?_)|refine Stp.pure rfl ?_|((with_reducible refine PutK.isSet ?_);refine PutK.st ?_)|refine PutK.mk' rfl ?_|refine Ops.nil ?_|refine DStp.pure rfl ?_|refine PutD.mk' rfl ?_|((with_reducible refine Look.id ?_);refine Look.at ?_;try (conv=>arg 7;whnf))|((with_reducible refine Side.id ?_);first|refine Side.auto ?_)|((with_reducible refine Br.id ?_);first|(with_reducible first|refine br_true rfl ?_|refine br_false rfl ?_))|((with_reducible refine SemWp.id ?_);first|refine sem_seq ?_|refine sem_region rfl ?_|refine sem_cond rfl ?_|refine sem_block ?_|refine sem_ret ?_|refine sem_skip ?_|refine sem_draw ?_)|((with_reducible refine qThen.id ?_);first|refine qThen.go ?_|refine qThen.ret ?_)|((with_reducible refine hinBlock.id ?_);first|refine hinBlock.ret ?_)|refine Stp.valS ?_|refine Stp.look ?_|refine Stp.call ?_|refine Stp.eff ?_|refine DStp.valS ?_|refine DStp.look ?_|((with_reducible refine CallWp.id ?_);first|(refine callA cx (I0) ?_;(conv=>whnf))|(refine callA cx (O) ?_;(conv=>whnf))|(refine callA cx (U) ?_;(conv=>whnf)))|((with_reducible refine BodyR.id ?_);first|refine BodyR.ret ?_)|((with_reducible refine ResG.id ?_);first|refine ResG.tmp rfl ?_|refine ResG.nil ?_)|((with_reducible refine Upd.id ?_);first|(refine Upd.lit rfl ?_;(conv=>whnf)))|refine TStp.look ?_|refine TStp.upd [(_,.cells _ _)] rfl rfl (by repeat first|exact HsetIs.hit) ?_|rw [g0]|rw [ma]
 try rw [show d+1 - 1=d from by omega]
 refine Fin.mk ⟨acc ++ [⟨3,0,noS,(acc.length:Int) - 1,-1⟩],by rw [snoc_len];omega,by rw [ow_snoc];exact WeakerE.refl _,?_⟩
 rw [snoc_len]
 exact Subp.tk
set_option maxHeartbeats 4000000 in
theorem ru_neg_er (l:List Tk) (wf:WfN l) (n:Nat) (IH:AllX l n) (i:Nat) (d:Int) (hi:i < l.length) (h0:0≤d) (h1:d≤50) (q rt:Nat) (a:Int) (acc:List ND) (hq:q≠rt) (ha:acc.length≤i) (b0:isT l i (tc 45)=true) (hd:¬ 50≤d) (c:Int) (j:Nat) (d':Int) (hb:pE l n .unary (d+1) (i+1)=some (.error (c,j,d'))) {res} (h:(errR c j d':Res' Ex)=some res):ExG l q rt acc i d a 76 res:=by
 have wt:=wf.toWfT
 have wl:=wt.len
 have hq':rt≠q:=Ne.symm hq
 have g0:=getD_tk hi
 have ma:(acc.map encN).length=acc.length:=by simp
 cases h
 have I0:=ris_ok q l i d a (tc 45) hi
 rw [b0] at I0
 have hi1:=wt.more i hi (isT_kind b0)
 obtain ⟨hj,hij,hc⟩:=pE_err wt _ _ _ _ hi1 _ _ _ hb
 have c0:¬ c=0:=by omega
 have O:=ropen_yes q l i d a (tc 45) wt hi b0 hd h0
 have C:=IH.unary n (Nat.le_refl _) (d+1) (i+1) _ hi1 (by omega) (by omega) hb q rt a acc hq (by omega)
 simp only [ExG] at C
 clear hb
 refine ExG.of ?_
 clear IH
 unfold rs ow at *
 refine sem_calls' cx (fn:=Tryz.f76) rfl rfl rfl rfl ?_
 repeat' first|(refine DN.alloc rfl rfl rfl rfl rfl rfl rfl rfl rfl ?_;skip)|((with_reducible refine DrawReg.id ?_);refine drawVoid (fun r hr=>?_);simp only [keys,List.nil_append,List.cons_append,List.map_cons,List.map_nil,List.mem_cons,List.not_mem_nil,not_or,or_false,not_false_eq_true] at hr;(repeat (obtain ⟨_,hr⟩:=hr));refine drawN cx [[(_,.void)]] rfl [[10,11]] [] [0,1,2,3,4,5,6,7,8,9,10,11] (by repeat first|exact HTake.nil|(apply HTake.cons;focus (repeat first|exact HPick.hit))) rfl (by decide +kernel) ?_)|(refine DN.quiet rfl rfl rfl rfl ?_;(conv=>arg 7;whnf))|(refine DN.turn rfl rfl rfl rfl rfl ?_;(conv=>arg 7;whnf))|(refine DN.nilF ?_;(conv=>whnf))|refine Ops.tag rfl ?_|(refine OpsT.go ?_;(conv=>arg 7;whnf))|((with_reducible refine Stp.isSum ?_);refine Stp.sum ?_)|((with_reducible refine Stp.isNe ?_);first|refine Stp.neF ?_)|refine Stp.pure rfl ?_|((with_reducible refine PutK.isSet ?_);refine PutK.st ?_)|refine PutK.mk' rfl ?_|refine Ops.nil ?_|refine DStp.pure rfl ?_|refine PutD.mk' rfl ?_|((with_reducible refine Look.id ?_);refine Look.at ?_;try (conv=>arg 7;whnf))|((with_reducible refine Side.id ?_);first|refine Side.auto ?_)|((with_reducible refine Br.id ?_);first|(with_reducible first|refine br_true rfl ?_|refine br_false rfl ?_))|((with_reducible refine SemWp.id ?_);first|refine sem_seq ?_|refine sem_region rfl ?_|refine sem_cond rfl ?_|refine sem_block ?_|refine sem_ret ?_|refine sem_skip ?_|refine sem_draw ?_)|((with_reducible refine qThen.id ?_);first|refine qThen.go ?_|refine qThen.ret ?_)|((with_reducible refine hinBlock.id ?_);first|refine hinBlock.ret ?_)|refine Stp.valS ?_|refine Stp.look ?_|refine Stp.call ?_|refine Stp.eff ?_|refine DStp.valS ?_|refine DStp.look ?_|((with_reducible refine CallWp.id ?_);first|(refine callA cx (I0) ?_;(conv=>whnf))|(refine callA cx (O) ?_;(conv=>whnf))|(refine callX cx (C) (fun g hg=>?_);(conv=>whnf)))|((with_reducible refine BodyR.id ?_);first|refine BodyR.ret ?_)|((with_reducible refine ResG.id ?_);first|refine ResG.tmp rfl ?_|refine ResG.nil ?_)|((with_reducible refine Upd.id ?_);first|(refine Upd.lit rfl ?_;(conv=>whnf)))|refine TStp.look ?_|refine TStp.upd [(_,.cells _ _)] rfl rfl (by repeat first|exact HsetIs.hit) ?_|rw [g0]
 try rw [show d+1 - 1=d from by omega]
 refine Fin.mk ⟨g ++ [⟨3,0,noS,(g.length:Int) - 1,-1⟩],by rw [snoc_len];omega,by rw [ow_snoc];simp only [List.length_map];rw [wrap64 (by omega)];exact WeakerE.refl _,?_⟩
 rw [snoc_len]
 exact Subp.tk
set_option maxHeartbeats 4000000 in
theorem ru_neg_ok (l:List Tk) (wf:WfN l) (n:Nat) (IH:AllX l n) (i:Nat) (d:Int) (hi:i < l.length) (h0:0≤d) (h1:d≤50) (q rt:Nat) (a:Int) (acc:List ND) (hq:q≠rt) (ha:acc.length≤i) (b0:isT l i (tc 45)=true) (hd:¬ 50≤d) (e:Ex) (j:Nat) (hb:pE l n .unary (d+1) (i+1)=some (.ok (e,j))) {res} (h:okR (.un 3 e) j=some res):ExG l q rt acc i d a 76 res:=by
 have wt:=wf.toWfT
 have wl:=wt.len
 have hq':rt≠q:=Ne.symm hq
 have g0:=getD_tk hi
 have ma:(acc.map encN).length=acc.length:=by simp
 cases h
 have I0:=ris_ok q l i d a (tc 45) hi
 rw [b0] at I0
 have hi1:=wt.more i hi (isT_kind b0)
 obtain ⟨hj,hij,hl⟩:=pE_facts wt _ _ _ _ _ _ hi1 hb
 simp only [Lv.base] at hl
 have zl:=gl_len acc e
 have mg:((gl acc e).map encN).length=(gl acc e).length:=by simp
 have O:=ropen_yes q l i d a (tc 45) wt hi b0 hd h0
 have C:To 76 [.ptr q 0,ow rt acc] [(q,rs l (i+1) (d+1) 0 a),(rt,.tok acc.length)] (.ret (ow rt (gl acc e))) [(q,rs l j (d+1) 0 a),(rt,.tok (gl acc e).length)]:=IH.unary n (Nat.le_refl _) (d+1) (i+1) _ hi1 (by omega) (by omega) hb q rt a acc hq (by omega)
 clear hb
 refine ExG.of ?_
 clear IH
 unfold rs ow at *
 refine sem_calls' cx (fn:=Tryz.f76) rfl rfl rfl rfl ?_
 repeat' first|(refine DN.alloc rfl rfl rfl rfl rfl rfl rfl rfl rfl ?_;skip)|((with_reducible refine DrawReg.id ?_);refine drawVoid (fun r hr=>?_);simp only [keys,List.nil_append,List.cons_append,List.map_cons,List.map_nil,List.mem_cons,List.not_mem_nil,not_or,or_false,not_false_eq_true] at hr;(repeat (obtain ⟨_,hr⟩:=hr));refine drawN cx [[(_,.void)]] rfl [[10,11]] [] [0,1,2,3,4,5,6,7,8,9,10,11] (by repeat first|exact HTake.nil|(apply HTake.cons;focus (repeat first|exact HPick.hit))) rfl (by decide +kernel) ?_)|(refine DN.quiet rfl rfl rfl rfl ?_;(conv=>arg 7;whnf))|(refine DN.turn rfl rfl rfl rfl rfl ?_;(conv=>arg 7;whnf))|(refine DN.nilF ?_;(conv=>whnf))|refine Ops.tag rfl ?_|(refine OpsT.go ?_;(conv=>arg 7;whnf))|((with_reducible refine Stp.isSum ?_);refine Stp.sum ?_)|((with_reducible refine Stp.isNe ?_);first|refine Stp.neF ?_)|refine Stp.pure rfl ?_|((with_reducible refine PutK.isSet ?_);refine PutK.st ?_)|refine PutK.mk' rfl ?_|refine Ops.nil ?_|refine DStp.pure rfl ?_|refine PutD.mk' rfl ?_|((with_reducible refine Look.id ?_);refine Look.at ?_;try (conv=>arg 7;whnf))|((with_reducible refine Side.id ?_);first|refine Side.auto ?_)|((with_reducible refine Br.id ?_);first|(with_reducible first|refine br_true rfl ?_|refine br_false rfl ?_))|((with_reducible refine SemWp.id ?_);first|refine sem_seq ?_|refine sem_region rfl ?_|refine sem_cond rfl ?_|refine sem_block ?_|refine sem_ret ?_|refine sem_skip ?_|refine sem_draw ?_)|((with_reducible refine qThen.id ?_);first|refine qThen.go ?_|refine qThen.ret ?_)|((with_reducible refine hinBlock.id ?_);first|refine hinBlock.ret ?_)|refine Stp.valS ?_|refine Stp.look ?_|refine Stp.call ?_|refine Stp.eff ?_|refine DStp.valS ?_|refine DStp.look ?_|((with_reducible refine CallWp.id ?_);first|(refine callA cx (I0) ?_;(conv=>whnf))|(refine callA cx (O) ?_;(conv=>whnf))|(refine callA cx (C) ?_;(conv=>whnf)))|((with_reducible refine BodyR.id ?_);first|refine BodyR.ret ?_)|((with_reducible refine ResG.id ?_);first|refine ResG.tmp rfl ?_|refine ResG.nil ?_)|((with_reducible refine Upd.id ?_);first|(refine Upd.lit rfl ?_;(conv=>whnf)))|refine TStp.look ?_|refine TStp.upd [(_,.cells _ _)] rfl rfl (by repeat first|exact HsetIs.hit) ?_|rw [g0]|rw [mg]
 try rw [show d+1 - 1=d from by omega]
 have eb:=gl_un acc 3 e
 refine Fin.mk ⟨by show WeakerE _ (HEnd.ret (ow rt (gl acc (.un 3 e))));rw [eb,ow_snoc];exact WeakerE.refl _,?_⟩
 show Subp [(q,_),(rt,Res.tok (gl acc (.un 3 e)).length)] _
 rw [eb,snoc_len]
 exact Subp.tk
set_option maxHeartbeats 4000000 in
theorem ru_par_deep (l:List Tk) (wf:WfN l) (n:Nat) (IH:AllX l n) (i:Nat) (d:Int) (hi:i < l.length) (h0:0≤d) (h1:d≤50) (q rt:Nat) (a:Int) (acc:List ND) (hq:q≠rt) (ha:acc.length≤i) (m0:isT l i (tc 45)=false) (b0:isT l i (tc 40)=true) (hd:50≤d) {res} (h:(errR 5 i d:Res' Ex)=some res):ExG l q rt acc i d a 76 res:=by
 have wt:=wf.toWfT
 have wl:=wt.len
 have hq':rt≠q:=Ne.symm hq
 have g0:=getD_tk hi
 have ma:(acc.map encN).length=acc.length:=by simp
 cases h
 have I0:=ris_ok q l i d a (tc 45) hi
 rw [m0] at I0
 have I1:=ris_ok q l i d a (tc 40) hi
 rw [b0] at I1
 have O:=ropen_deep q l i d a (tc 40) hi b0 hd (by omega)
 have U:=(rexpr_er l).er q rt i (d+1) 5 (tk l i).pos acc hi hq (by decide)
 have W:=rwant_er q l i (d+1) 5 (tk l i).pos (tc 41) hi (by decide)
 refine ExG.of ?_
 clear IH
 unfold rs ow at *
 refine sem_calls' cx (fn:=Tryz.f76) rfl rfl rfl rfl ?_
 repeat' first|(refine DN.alloc rfl rfl rfl rfl rfl rfl rfl rfl rfl ?_;skip)|((with_reducible refine DrawReg.id ?_);refine drawVoid (fun r hr=>?_);simp only [keys,List.nil_append,List.cons_append,List.map_cons,List.map_nil,List.mem_cons,List.not_mem_nil,not_or,or_false,not_false_eq_true] at hr;(repeat (obtain ⟨_,hr⟩:=hr));refine drawN cx [[(_,.void)]] rfl [[10,11]] [] [0,1,2,3,4,5,6,7,8,9,10,11] (by repeat first|exact HTake.nil|(apply HTake.cons;focus (repeat first|exact HPick.hit))) rfl (by decide +kernel) ?_)|(refine DN.quiet rfl rfl rfl rfl ?_;(conv=>arg 7;whnf))|(refine DN.turn rfl rfl rfl rfl rfl ?_;(conv=>arg 7;whnf))|(refine DN.nilF ?_;(conv=>whnf))|refine Ops.tag rfl ?_|(refine OpsT.go ?_;(conv=>arg 7;whnf))|((with_reducible refine Stp.isSum ?_);refine Stp.sum ?_)|((with_reducible refine Stp.isNe ?_);first|refine Stp.neF ?_)|refine Stp.pure rfl ?_|((with_reducible refine PutK.isSet ?_);refine PutK.st ?_)|refine PutK.mk' rfl ?_|refine Ops.nil ?_|refine DStp.pure rfl ?_|refine PutD.mk' rfl ?_|((with_reducible refine Look.id ?_);refine Look.at ?_;try (conv=>arg 7;whnf))|((with_reducible refine Side.id ?_);first|refine Side.auto ?_)|((with_reducible refine Br.id ?_);first|(with_reducible first|refine br_true rfl ?_|refine br_false rfl ?_))|((with_reducible refine SemWp.id ?_);first|refine sem_seq ?_|refine sem_region rfl ?_|refine sem_cond rfl ?_|refine sem_block ?_|refine sem_ret ?_|refine sem_skip ?_|refine sem_draw ?_)|((with_reducible refine qThen.id ?_);first|refine qThen.go ?_|refine qThen.ret ?_)|((with_reducible refine hinBlock.id ?_);first|refine hinBlock.ret ?_)|refine Stp.valS ?_|refine Stp.look ?_|refine Stp.call ?_|refine Stp.eff ?_|refine DStp.valS ?_|refine DStp.look ?_|((with_reducible refine CallWp.id ?_);first|(refine callA cx (I0) ?_;(conv=>whnf))|(refine callA cx (I1) ?_;(conv=>whnf))|(refine callA cx (O) ?_;(conv=>whnf))|(refine callA cx (U) ?_;(conv=>whnf))|(refine callA cx (W) ?_;(conv=>whnf)))|((with_reducible refine BodyR.id ?_);first|refine BodyR.ret ?_)|((with_reducible refine ResG.id ?_);first|refine ResG.tmp rfl ?_|refine ResG.nil ?_)|((with_reducible refine Upd.id ?_);first|(refine Upd.lit rfl ?_;(conv=>whnf)))|refine TStp.look ?_|refine TStp.upd [(_,.cells _ _)] rfl rfl (by repeat first|exact HsetIs.hit) ?_|rw [g0]
 try rw [show d+1 - 1=d from by omega]
 refine Fin.mk ⟨acc,by omega,WeakerE.refl _,Subp.tk⟩
set_option maxHeartbeats 4000000 in
theorem ru_par_er (l:List Tk) (wf:WfN l) (n:Nat) (IH:AllX l n) (i:Nat) (d:Int) (hi:i < l.length) (h0:0≤d) (h1:d≤50) (q rt:Nat) (a:Int) (acc:List ND) (hq:q≠rt) (ha:acc.length≤i) (m0:isT l i (tc 45)=false) (b0:isT l i (tc 40)=true) (hd:¬ 50≤d) (c:Int) (j:Nat) (d':Int) (hb:pE l n .expr (d+1) (i+1)=some (.error (c,j,d'))) {res} (h:(errR c j d':Res' Ex)=some res):ExG l q rt acc i d a 76 res:=by
 have wt:=wf.toWfT
 have wl:=wt.len
 have hq':rt≠q:=Ne.symm hq
 have g0:=getD_tk hi
 have ma:(acc.map encN).length=acc.length:=by simp
 cases h
 have I0:=ris_ok q l i d a (tc 45) hi
 rw [m0] at I0
 have I1:=ris_ok q l i d a (tc 40) hi
 rw [b0] at I1
 have hi1:=wt.more i hi (isT_kind b0)
 obtain ⟨hj,hij,hc⟩:=pE_err wt _ _ _ _ hi1 _ _ _ hb
 have c0:¬ c=0:=by omega
 have O:=ropen_yes q l i d a (tc 40) wt hi b0 hd h0
 have C:=IH.expr n (Nat.le_refl _) (d+1) (i+1) _ hi1 (by omega) (by omega) hb q rt a acc hq (by omega)
 simp only [ExG] at C
 have W:=rwant_er q l j (d+1) c (tk l j).pos (tc 41) hj c0
 clear hb
 refine ExG.of ?_
 clear IH
 unfold rs ow at *
 refine sem_calls' cx (fn:=Tryz.f76) rfl rfl rfl rfl ?_
 repeat' first|(refine DN.alloc rfl rfl rfl rfl rfl rfl rfl rfl rfl ?_;skip)|((with_reducible refine DrawReg.id ?_);refine drawVoid (fun r hr=>?_);simp only [keys,List.nil_append,List.cons_append,List.map_cons,List.map_nil,List.mem_cons,List.not_mem_nil,not_or,or_false,not_false_eq_true] at hr;(repeat (obtain ⟨_,hr⟩:=hr));refine drawN cx [[(_,.void)]] rfl [[10,11]] [] [0,1,2,3,4,5,6,7,8,9,10,11] (by repeat first|exact HTake.nil|(apply HTake.cons;focus (repeat first|exact HPick.hit))) rfl (by decide +kernel) ?_)|(refine DN.quiet rfl rfl rfl rfl ?_;(conv=>arg 7;whnf))|(refine DN.turn rfl rfl rfl rfl rfl ?_;(conv=>arg 7;whnf))|(refine DN.nilF ?_;(conv=>whnf))|refine Ops.tag rfl ?_|(refine OpsT.go ?_;(conv=>arg 7;whnf))|((with_reducible refine Stp.isSum ?_);refine Stp.sum ?_)|((with_reducible refine Stp.isNe ?_);first|refine Stp.neF ?_)|refine Stp.pure rfl ?_|((with_reducible refine PutK.isSet ?_);refine PutK.st ?_)|refine PutK.mk' rfl ?_|refine Ops.nil ?_|refine DStp.pure rfl ?_|refine PutD.mk' rfl ?_|((with_reducible refine Look.id ?_);refine Look.at ?_;try (conv=>arg 7;whnf))|((with_reducible refine Side.id ?_);first|refine Side.auto ?_)|((with_reducible refine Br.id ?_);first|(with_reducible first|refine br_true rfl ?_|refine br_false rfl ?_))|((with_reducible refine SemWp.id ?_);first|refine sem_seq ?_|refine sem_region rfl ?_|refine sem_cond rfl ?_|refine sem_block ?_|refine sem_ret ?_|refine sem_skip ?_|refine sem_draw ?_)|((with_reducible refine qThen.id ?_);first|refine qThen.go ?_|refine qThen.ret ?_)|((with_reducible refine hinBlock.id ?_);first|refine hinBlock.ret ?_)|refine Stp.valS ?_|refine Stp.look ?_|refine Stp.call ?_|refine Stp.eff ?_|refine DStp.valS ?_|refine DStp.look ?_|((with_reducible refine CallWp.id ?_);first|(refine callA cx (I0) ?_;(conv=>whnf))|(refine callA cx (I1) ?_;(conv=>whnf))|(refine callA cx (O) ?_;(conv=>whnf))|(refine callX cx (C) (fun g hg=>?_);(conv=>whnf))|(refine callA cx (W) ?_;(conv=>whnf)))|((with_reducible refine BodyR.id ?_);first|refine BodyR.ret ?_)|((with_reducible refine ResG.id ?_);first|refine ResG.tmp rfl ?_|refine ResG.nil ?_)|((with_reducible refine Upd.id ?_);first|(refine Upd.lit rfl ?_;(conv=>whnf)))|refine TStp.look ?_|refine TStp.upd [(_,.cells _ _)] rfl rfl (by repeat first|exact HsetIs.hit) ?_|rw [g0]
 try rw [show d+1 - 1=d from by omega]
 refine Fin.mk ⟨g,by omega,WeakerE.refl _,Subp.tk⟩
set_option maxHeartbeats 4000000 in
theorem ru_par_ok (l:List Tk) (wf:WfN l) (n:Nat) (IH:AllX l n) (i:Nat) (d:Int) (hi:i < l.length) (h0:0≤d) (h1:d≤50) (q rt:Nat) (a:Int) (acc:List ND) (hq:q≠rt) (ha:acc.length≤i) (m0:isT l i (tc 45)=false) (b0:isT l i (tc 40)=true) (hd:¬ 50≤d) (e:Ex) (j:Nat) (hb:pE l n .expr (d+1) (i+1)=some (.ok (e,j))) (b2:isT l j (tc 41)=true) {res} (h:okR e (j+1)=some res):ExG l q rt acc i d a 76 res:=by
 have wt:=wf.toWfT
 have wl:=wt.len
 have hq':rt≠q:=Ne.symm hq
 have g0:=getD_tk hi
 have ma:(acc.map encN).length=acc.length:=by simp
 cases h
 have I0:=ris_ok q l i d a (tc 45) hi
 rw [m0] at I0
 have I1:=ris_ok q l i d a (tc 40) hi
 rw [b0] at I1
 have hi1:=wt.more i hi (isT_kind b0)
 obtain ⟨hj,hij,hl⟩:=pE_facts wt _ _ _ _ _ _ hi1 hb
 simp only [Lv.base] at hl
 have zl:=gl_len acc e
 have mg:((gl acc e).map encN).length=(gl acc e).length:=by simp
 have O:=ropen_yes q l i d a (tc 40) wt hi b0 hd h0
 have C:To 62 [.ptr q 0,ow rt acc] [(q,rs l (i+1) (d+1) 0 a),(rt,.tok acc.length)] (.ret (ow rt (gl acc e))) [(q,rs l j (d+1) 0 a),(rt,.tok (gl acc e).length)]:=IH.expr n (Nat.le_refl _) (d+1) (i+1) _ hi1 (by omega) (by omega) hb q rt a acc hq (by omega)
 clear hb
 have W:=rwant_yes q l j (d+1) a (tc 41) wt hj b2
 refine ExG.of ?_
 clear IH
 unfold rs ow at *
 refine sem_calls' cx (fn:=Tryz.f76) rfl rfl rfl rfl ?_
 repeat' first|(refine DN.alloc rfl rfl rfl rfl rfl rfl rfl rfl rfl ?_;skip)|((with_reducible refine DrawReg.id ?_);refine drawVoid (fun r hr=>?_);simp only [keys,List.nil_append,List.cons_append,List.map_cons,List.map_nil,List.mem_cons,List.not_mem_nil,not_or,or_false,not_false_eq_true] at hr;(repeat (obtain ⟨_,hr⟩:=hr));refine drawN cx [[(_,.void)]] rfl [[10,11]] [] [0,1,2,3,4,5,6,7,8,9,10,11] (by repeat first|exact HTake.nil|(apply HTake.cons;focus (repeat first|exact HPick.hit))) rfl (by decide +kernel) ?_)|(refine DN.quiet rfl rfl rfl rfl ?_;(conv=>arg 7;whnf))|(refine DN.turn rfl rfl rfl rfl rfl ?_;(conv=>arg 7;whnf))|(refine DN.nilF ?_;(conv=>whnf))|refine Ops.tag rfl ?_|(refine OpsT.go ?_;(conv=>arg 7;whnf))|((with_reducible refine Stp.isSum ?_);refine Stp.sum ?_)|((with_reducible refine Stp.isNe ?_);first|refine Stp.neF ?_)|refine Stp.pure rfl ?_|((with_reducible refine PutK.isSet ?_);refine PutK.st ?_)|refine PutK.mk' rfl ?_|refine Ops.nil ?_|refine DStp.pure rfl ?_|refine PutD.mk' rfl ?_|((with_reducible refine Look.id ?_);refine Look.at ?_;try (conv=>arg 7;whnf))|((with_reducible refine Side.id ?_);first|refine Side.auto ?_)|((with_reducible refine Br.id ?_);first|(with_reducible first|refine br_true rfl ?_|refine br_false rfl ?_))|((with_reducible refine SemWp.id ?_);first|refine sem_seq ?_|refine sem_region rfl ?_|refine sem_cond rfl ?_|refine sem_block ?_|refine sem_ret ?_|refine sem_skip ?_|refine sem_draw ?_)|((with_reducible refine qThen.id ?_);first|refine qThen.go ?_|refine qThen.ret ?_)|((with_reducible refine hinBlock.id ?_);first|refine hinBlock.ret ?_)|refine Stp.valS ?_|refine Stp.look ?_|refine Stp.call ?_|refine Stp.eff ?_|refine DStp.valS ?_|refine DStp.look ?_|((with_reducible refine CallWp.id ?_);first|(refine callA cx (I0) ?_;(conv=>whnf))|(refine callA cx (I1) ?_;(conv=>whnf))|(refine callA cx (O) ?_;(conv=>whnf))|(refine callA cx (C) ?_;(conv=>whnf))|(refine callA cx (W) ?_;(conv=>whnf)))|((with_reducible refine BodyR.id ?_);first|refine BodyR.ret ?_)|((with_reducible refine ResG.id ?_);first|refine ResG.tmp rfl ?_|refine ResG.nil ?_)|((with_reducible refine Upd.id ?_);first|(refine Upd.lit rfl ?_;(conv=>whnf)))|refine TStp.look ?_|refine TStp.upd [(_,.cells _ _)] rfl rfl (by repeat first|exact HsetIs.hit) ?_|rw [g0]
 try rw [show d+1 - 1=d from by omega]
 refine Fin.mk ⟨WeakerE.refl _,Subp.tk⟩
set_option maxHeartbeats 4000000 in
theorem ru_par_no (l:List Tk) (wf:WfN l) (n:Nat) (IH:AllX l n) (i:Nat) (d:Int) (hi:i < l.length) (h0:0≤d) (h1:d≤50) (q rt:Nat) (a:Int) (acc:List ND) (hq:q≠rt) (ha:acc.length≤i) (m0:isT l i (tc 45)=false) (b0:isT l i (tc 40)=true) (hd:¬ 50≤d) (e:Ex) (j:Nat) (hb:pE l n .expr (d+1) (i+1)=some (.ok (e,j))) (b2:isT l j (tc 41)=false) {res} (h:(errR 4 j (d+1):Res' Ex)=some res):ExG l q rt acc i d a 76 res:=by
 have wt:=wf.toWfT
 have wl:=wt.len
 have hq':rt≠q:=Ne.symm hq
 have g0:=getD_tk hi
 have ma:(acc.map encN).length=acc.length:=by simp
 cases h
 have I0:=ris_ok q l i d a (tc 45) hi
 rw [m0] at I0
 have I1:=ris_ok q l i d a (tc 40) hi
 rw [b0] at I1
 have hi1:=wt.more i hi (isT_kind b0)
 obtain ⟨hj,hij,hl⟩:=pE_facts wt _ _ _ _ _ _ hi1 hb
 simp only [Lv.base] at hl
 have zl:=gl_len acc e
 have mg:((gl acc e).map encN).length=(gl acc e).length:=by simp
 have O:=ropen_yes q l i d a (tc 40) wt hi b0 hd h0
 have C:To 62 [.ptr q 0,ow rt acc] [(q,rs l (i+1) (d+1) 0 a),(rt,.tok acc.length)] (.ret (ow rt (gl acc e))) [(q,rs l j (d+1) 0 a),(rt,.tok (gl acc e).length)]:=IH.expr n (Nat.le_refl _) (d+1) (i+1) _ hi1 (by omega) (by omega) hb q rt a acc hq (by omega)
 clear hb
 have W:=rwant_no q l j (d+1) a (tc 41) hj b2
 refine ExG.of ?_
 clear IH
 unfold rs ow at *
 refine sem_calls' cx (fn:=Tryz.f76) rfl rfl rfl rfl ?_
 repeat' first|(refine DN.alloc rfl rfl rfl rfl rfl rfl rfl rfl rfl ?_;skip)|((with_reducible refine DrawReg.id ?_);refine drawVoid (fun r hr=>?_);simp only [keys,List.nil_append,List.cons_append,List.map_cons,List.map_nil,List.mem_cons,List.not_mem_nil,not_or,or_false,not_false_eq_true] at hr;(repeat (obtain ⟨_,hr⟩:=hr));refine drawN cx [[(_,.void)]] rfl [[10,11]] [] [0,1,2,3,4,5,6,7,8,9,10,11] (by repeat first|exact HTake.nil|(apply HTake.cons;focus (repeat first|exact HPick.hit))) rfl (by decide +kernel) ?_)|(refine DN.quiet rfl rfl rfl rfl ?_;(conv=>arg 7;whnf))|(refine DN.turn rfl rfl rfl rfl rfl ?_;(conv=>arg 7;whnf))|(refine DN.nilF ?_;(conv=>whnf))|refine Ops.tag rfl ?_|(refine OpsT.go ?_;(conv=>arg 7;whnf))|((with_reducible refine Stp.isSum ?_);refine Stp.sum ?_)|((with_reducible refine Stp.isNe ?_);first|refine Stp.neF ?_)|refine Stp.pure rfl ?_|((with_reducible refine PutK.isSet ?_);refine PutK.st ?_)|refine PutK.mk' rfl ?_|refine Ops.nil ?_|refine DStp.pure rfl ?_|refine PutD.mk' rfl ?_|((with_reducible refine Look.id ?_);refine Look.at ?_;try (conv=>arg 7;whnf))|((with_reducible refine Side.id ?_);first|refine Side.auto ?_)|((with_reducible refine Br.id ?_);first|(with_reducible first|refine br_true rfl ?_|refine br_false rfl ?_))|((with_reducible refine SemWp.id ?_);first|refine sem_seq ?_|refine sem_region rfl ?_|refine sem_cond rfl ?_|refine sem_block ?_|refine sem_ret ?_|refine sem_skip ?_|refine sem_draw ?_)|((with_reducible refine qThen.id ?_);first|refine qThen.go ?_|refine qThen.ret ?_)|((with_reducible refine hinBlock.id ?_);first|refine hinBlock.ret ?_)|refine Stp.valS ?_|refine Stp.look ?_|refine Stp.call ?_|refine Stp.eff ?_|refine DStp.valS ?_|refine DStp.look ?_|((with_reducible refine CallWp.id ?_);first|(refine callA cx (I0) ?_;(conv=>whnf))|(refine callA cx (I1) ?_;(conv=>whnf))|(refine callA cx (O) ?_;(conv=>whnf))|(refine callA cx (C) ?_;(conv=>whnf))|(refine callA cx (W) ?_;(conv=>whnf)))|((with_reducible refine BodyR.id ?_);first|refine BodyR.ret ?_)|((with_reducible refine ResG.id ?_);first|refine ResG.tmp rfl ?_|refine ResG.nil ?_)|((with_reducible refine Upd.id ?_);first|(refine Upd.lit rfl ?_;(conv=>whnf)))|refine TStp.look ?_|refine TStp.upd [(_,.cells _ _)] rfl rfl (by repeat first|exact HsetIs.hit) ?_|rw [g0]
 try rw [show d+1 - 1=d from by omega]
 refine Fin.mk ⟨gl acc e,by omega,WeakerE.refl _,Subp.tk⟩
set_option maxHeartbeats 4000000 in
theorem ru_num (l:List Tk) (wf:WfN l) (n:Nat) (IH:AllX l n) (i:Nat) (d:Int) (hi:i < l.length) (h0:0≤d) (h1:d≤50) (q rt:Nat) (a:Int) (acc:List ND) (hq:q≠rt) (ha:acc.length≤i) (m0:isT l i (tc 45)=false) (m1:isT l i (tc 40)=false) (hk:(tk l i).kind=2) {res} (h:okR (.num (numS (tk l i).text)) (i+1)=some res):ExG l q rt acc i d a 76 res:=by
 have wt:=wf.toWfT
 have wl:=wt.len
 have hq':rt≠q:=Ne.symm hq
 have g0:=getD_tk hi
 have ma:(acc.map encN).length=acc.length:=by simp
 cases h
 have I0:=ris_ok q l i d a (tc 45) hi
 rw [m0] at I0
 have I1:=ris_ok q l i d a (tc 40) hi
 rw [m1] at I1
 have N:=rnum_spec _ (wf.num i hi hk)
 have hi1:=wt.more i hi (by omega)
 have L:=rleaf_spec rt acc 1 (numS (tk l i).text) noS 0 0 (by omega)
 rw [hk] at g0
 generalize (tk l i).text=t at *
 generalize (tk l i).pos=p at *
 refine ExG.of ?_
 clear IH
 unfold rs ow at *
 refine sem_calls' cx (fn:=Tryz.f76) rfl rfl rfl rfl ?_
 repeat' first|(refine DN.alloc rfl rfl rfl rfl rfl rfl rfl rfl rfl ?_;skip)|((with_reducible refine DrawReg.id ?_);refine drawVoid (fun r hr=>?_);simp only [keys,List.nil_append,List.cons_append,List.map_cons,List.map_nil,List.mem_cons,List.not_mem_nil,not_or,or_false,not_false_eq_true] at hr;(repeat (obtain ⟨_,hr⟩:=hr));refine drawN cx [[(_,.void)]] rfl [[10,11]] [] [0,1,2,3,4,5,6,7,8,9,10,11] (by repeat first|exact HTake.nil|(apply HTake.cons;focus (repeat first|exact HPick.hit))) rfl (by decide +kernel) ?_)|(refine DN.quiet rfl rfl rfl rfl ?_;(conv=>arg 7;whnf))|(refine DN.turn rfl rfl rfl rfl rfl ?_;(conv=>arg 7;whnf))|(refine DN.nilF ?_;(conv=>whnf))|refine Ops.tag rfl ?_|(refine OpsT.go ?_;(conv=>arg 7;whnf))|((with_reducible refine Stp.isSum ?_);refine Stp.sum ?_)|((with_reducible refine Stp.isEq ?_);first|refine Stp.eqT ?_)|((with_reducible refine Stp.isNe ?_);first|refine Stp.neF ?_)|refine Stp.pure rfl ?_|((with_reducible refine PutK.isSet ?_);refine PutK.st ?_)|refine PutK.mk' rfl ?_|refine Ops.nil ?_|refine DStp.pure rfl ?_|refine PutD.mk' rfl ?_|((with_reducible refine Look.id ?_);refine Look.auto ?_ (by repeat first|exact HGet.hit|apply HGet.miss (by first|(apply Ne.symm;assumption)));try (conv=>arg 7;whnf))|((with_reducible refine Side.id ?_);first|refine Side.auto ?_)|((with_reducible refine Br.id ?_);first|(with_reducible first|refine br_true rfl ?_|refine br_false rfl ?_))|((with_reducible refine SemWp.id ?_);first|refine sem_seq ?_|refine sem_region rfl ?_|refine sem_cond rfl ?_|refine sem_block ?_|refine sem_ret ?_|refine sem_skip ?_|refine sem_draw ?_)|((with_reducible refine qThen.id ?_);first|refine qThen.go ?_|refine qThen.ret ?_)|((with_reducible refine hinBlock.id ?_);first|refine hinBlock.ret ?_)|refine Stp.valS ?_|refine Stp.look ?_|refine Stp.call ?_|refine Stp.eff ?_|refine DStp.valS ?_|refine DStp.look ?_|((with_reducible refine CallWp.id ?_);first|(refine callA cx (I0) ?_;(conv=>whnf))|(refine callA cx (I1) ?_;(conv=>whnf))|refine Pur.call (N) ?_|(refine callA cx (L) ?_;(conv=>whnf)))|((with_reducible refine BodyR.id ?_);first|refine BodyR.ret ?_)|((with_reducible refine ResG.id ?_);first|refine ResG.tmp rfl ?_|refine ResG.nil ?_)|((with_reducible refine Upd.id ?_);first|(refine Upd.lit rfl ?_;(conv=>whnf)))|refine TStp.look ?_|refine TStp.upd [(_,.cells _ _)] rfl rfl (by repeat first|exact HsetIs.hit) ?_|rw [g0]
 try rw [show d+1 - 1=d from by omega]
 refine Fin.mk ⟨WeakerE.refl _,Subp.tk⟩
set_option maxHeartbeats 4000000 in
theorem ru_name (l:List Tk) (wf:WfN l) (n:Nat) (IH:AllX l n) (i:Nat) (d:Int) (hi:i < l.length) (h0:0≤d) (h1:d≤50) (q rt:Nat) (a:Int) (acc:List ND) (hq:q≠rt) (ha:acc.length≤i) (m0:isT l i (tc 45)=false) (m1:isT l i (tc 40)=false) (hk:(tk l i).kind=1) {res} (h:okR (.var (tk l i).text) (i+1)=some res):ExG l q rt acc i d a 76 res:=by
 have wt:=wf.toWfT
 have wl:=wt.len
 have hq':rt≠q:=Ne.symm hq
 have g0:=getD_tk hi
 have ma:(acc.map encN).length=acc.length:=by simp
 cases h
 have I0:=ris_ok q l i d a (tc 45) hi
 rw [m0] at I0
 have I1:=ris_ok q l i d a (tc 40) hi
 rw [m1] at I1
 have hi1:=wt.more i hi (by omega)
 have L:=rleaf_spec rt acc 2 0 (tk l i).text 0 0 (by omega)
 rw [hk] at g0
 generalize (tk l i).text=t at *
 generalize (tk l i).pos=p at *
 refine ExG.of ?_
 clear IH
 unfold rs ow at *
 refine sem_calls' cx (fn:=Tryz.f76) rfl rfl rfl rfl ?_
 repeat' first|(refine DN.alloc rfl rfl rfl rfl rfl rfl rfl rfl rfl ?_;skip)|((with_reducible refine DrawReg.id ?_);refine drawVoid (fun r hr=>?_);simp only [keys,List.nil_append,List.cons_append,List.map_cons,List.map_nil,List.mem_cons,List.not_mem_nil,not_or,or_false,not_false_eq_true] at hr;(repeat (obtain ⟨_,hr⟩:=hr));refine drawN cx [[(_,.void)]] rfl [[10,11]] [] [0,1,2,3,4,5,6,7,8,9,10,11] (by repeat first|exact HTake.nil|(apply HTake.cons;focus (repeat first|exact HPick.hit))) rfl (by decide +kernel) ?_)|(refine DN.quiet rfl rfl rfl rfl ?_;(conv=>arg 7;whnf))|(refine DN.turn rfl rfl rfl rfl rfl ?_;(conv=>arg 7;whnf))|(refine DN.nilF ?_;(conv=>whnf))|refine Ops.tag rfl ?_|(refine OpsT.go ?_;(conv=>arg 7;whnf))|((with_reducible refine Stp.isSum ?_);refine Stp.sum ?_)|((with_reducible refine Stp.isEq ?_);first|refine Stp.eqT ?_|refine Stp.eqF ?_)|((with_reducible refine Stp.isNe ?_);first|refine Stp.neF ?_)|refine Stp.pure rfl ?_|((with_reducible refine PutK.isSet ?_);refine PutK.st ?_)|refine PutK.mk' rfl ?_|refine Ops.nil ?_|refine DStp.pure rfl ?_|refine PutD.mk' rfl ?_|((with_reducible refine Look.id ?_);refine Look.auto ?_ (by repeat first|exact HGet.hit|apply HGet.miss (by first|(apply Ne.symm;assumption)));try (conv=>arg 7;whnf))|((with_reducible refine Side.id ?_);first|refine Side.auto ?_)|((with_reducible refine Br.id ?_);first|(with_reducible first|refine br_true rfl ?_|refine br_false rfl ?_))|((with_reducible refine SemWp.id ?_);first|refine sem_seq ?_|refine sem_region rfl ?_|refine sem_cond rfl ?_|refine sem_block ?_|refine sem_ret ?_|refine sem_skip ?_|refine sem_draw ?_)|((with_reducible refine qThen.id ?_);first|refine qThen.go ?_|refine qThen.ret ?_)|((with_reducible refine hinBlock.id ?_);first|refine hinBlock.ret ?_)|refine Stp.valS ?_|refine Stp.look ?_|refine Stp.call ?_|refine Stp.eff ?_|refine DStp.valS ?_|refine DStp.look ?_|((with_reducible refine CallWp.id ?_);first|(refine callA cx (I0) ?_;(conv=>whnf))|(refine callA cx (I1) ?_;(conv=>whnf))|(refine callA cx (L) ?_;(conv=>whnf)))|((with_reducible refine BodyR.id ?_);first|refine BodyR.ret ?_)|((with_reducible refine ResG.id ?_);first|refine ResG.tmp rfl ?_|refine ResG.nil ?_)|((with_reducible refine Upd.id ?_);first|(refine Upd.lit rfl ?_;(conv=>whnf)))|refine TStp.look ?_|refine TStp.upd [(_,.cells _ _)] rfl rfl (by repeat first|exact HsetIs.hit) ?_|rw [g0]
 try rw [show d+1 - 1=d from by omega]
 refine Fin.mk ⟨WeakerE.refl _,Subp.tk⟩
set_option maxHeartbeats 4000000 in
theorem ru_none (l:List Tk) (wf:WfN l) (n:Nat) (IH:AllX l n) (i:Nat) (d:Int) (hi:i < l.length) (h0:0≤d) (h1:d≤50) (q rt:Nat) (a:Int) (acc:List ND) (hq:q≠rt) (ha:acc.length≤i) (m0:isT l i (tc 45)=false) (m1:isT l i (tc 40)=false) (hk:¬ (tk l i).kind=2) (hk1:¬ (tk l i).kind=1) {res} (h:(errR 4 i d:Res' Ex)=some res):ExG l q rt acc i d a 76 res:=by
 have wt:=wf.toWfT
 have wl:=wt.len
 have hq':rt≠q:=Ne.symm hq
 have g0:=getD_tk hi
 have ma:(acc.map encN).length=acc.length:=by simp
 cases h
 have I0:=ris_ok q l i d a (tc 45) hi
 rw [m0] at I0
 have I1:=ris_ok q l i d a (tc 40) hi
 rw [m1] at I1
 have F:=rfail_ok q l i d a 4 hi
 generalize (tk l i).kind=kd at *
 generalize (tk l i).text=t at *
 refine ExG.of ?_
 clear IH
 unfold rs ow at *
 refine sem_calls' cx (fn:=Tryz.f76) rfl rfl rfl rfl ?_
 repeat' first|(refine DN.alloc rfl rfl rfl rfl rfl rfl rfl rfl rfl ?_;skip)|((with_reducible refine DrawReg.id ?_);refine drawVoid (fun r hr=>?_);simp only [keys,List.nil_append,List.cons_append,List.map_cons,List.map_nil,List.mem_cons,List.not_mem_nil,not_or,or_false,not_false_eq_true] at hr;(repeat (obtain ⟨_,hr⟩:=hr));refine drawN cx [[(_,.void)]] rfl [[10,11]] [] [0,1,2,3,4,5,6,7,8,9,10,11] (by repeat first|exact HTake.nil|(apply HTake.cons;focus (repeat first|exact HPick.hit))) rfl (by decide +kernel) ?_)|(refine DN.quiet rfl rfl rfl rfl ?_;(conv=>arg 7;whnf))|(refine DN.turn rfl rfl rfl rfl rfl ?_;(conv=>arg 7;whnf))|(refine DN.nilF ?_;(conv=>whnf))|refine Ops.tag rfl ?_|(refine OpsT.go ?_;(conv=>arg 7;whnf))|((with_reducible refine Stp.isEq ?_);first|refine Stp.eqF ?_)|((with_reducible refine Stp.isNe ?_);first|refine Stp.neF ?_)|refine Stp.pure rfl ?_|refine PutK.mk' rfl ?_|refine Ops.nil ?_|refine DStp.pure rfl ?_|refine PutD.mk' rfl ?_|((with_reducible refine Look.id ?_);refine Look.auto ?_ (by repeat first|exact HGet.hit|apply HGet.miss (by first|(apply Ne.symm;assumption)));try (conv=>arg 7;whnf))|((with_reducible refine Side.id ?_);first|refine Side.auto ?_)|((with_reducible refine Br.id ?_);first|(with_reducible first|refine br_false rfl ?_))|((with_reducible refine SemWp.id ?_);first|refine sem_seq ?_|refine sem_region rfl ?_|refine sem_cond rfl ?_|refine sem_block ?_|refine sem_ret ?_|refine sem_skip ?_|refine sem_draw ?_)|((with_reducible refine qThen.id ?_);first|refine qThen.go ?_)|((with_reducible refine hinBlock.id ?_);first|refine hinBlock.go ?_)|refine Stp.valS ?_|refine Stp.look ?_|refine Stp.call ?_|refine DStp.valS ?_|refine DStp.look ?_|((with_reducible refine CallWp.id ?_);first|(refine callA cx (I0) ?_;(conv=>whnf))|(refine callA cx (I1) ?_;(conv=>whnf))|(refine callA cx (F) ?_;(conv=>whnf)))|((with_reducible refine BodyR.id ?_);first|refine BodyR.ret ?_)|((with_reducible refine ResG.id ?_);first|refine ResG.tmp rfl ?_|refine ResG.nil ?_)|refine TStp.look ?_|refine TStp.upd [(_,.cells _ _)] rfl rfl (by repeat first|exact HsetIs.hit) ?_|rw [g0]
 try rw [show d+1 - 1=d from by omega]
 refine Fin.mk ⟨acc,by omega,WeakerE.refl _,Subp.tk⟩
theorem runary_lvl (l:List Tk) (wf:WfN l) (n:Nat) (IH:AllX l n) (i:Nat) (d:Int) (res) (hi:i < l.length) (h0:0≤d) (h1:d≤50) (h:pE l (n+1) .unary d i=some res) (q rt:Nat) (a:Int) (acc:List ND) (hq:q≠rt) (ha:acc.length≤i):ExG l q rt acc i d a 76 res:=by
 simp only [pE] at h
 cases b0:isT l i (tc 45) with
 |true=>
  rw [if_pos b0] at h
  by_cases hd:50≤d
  ·rw [if_pos hd] at h
   exact ru_neg_deep l wf n IH i d hi h0 h1 q rt a acc hq ha b0 hd h
  ·rw [if_neg hd] at h
   cases hb:pE l n .unary (d+1) (i+1) with
   |none=>rw [hb] at h;cases h
   |some r=>
    rw [hb] at h
    cases r with
    |error x=>exact ru_neg_er l wf n IH i d hi h0 h1 q rt a acc hq ha b0 hd x.1 x.2.1 x.2.2 hb h
    |ok x=>exact ru_neg_ok l wf n IH i d hi h0 h1 q rt a acc hq ha b0 hd x.1 x.2 hb h
 |false=>
 rw [if_neg (by rw [b0];exact Bool.false_ne_true)] at h
 cases b1:isT l i (tc 40) with
 |true=>
  rw [if_pos b1] at h
  by_cases hd:50≤d
  ·rw [if_pos hd] at h
   exact ru_par_deep l wf n IH i d hi h0 h1 q rt a acc hq ha b0 b1 hd h
  ·rw [if_neg hd] at h
   cases hb:pE l n .expr (d+1) (i+1) with
   |none=>rw [hb] at h;cases h
   |some r=>
    rw [hb] at h
    cases r with
    |error x=>exact ru_par_er l wf n IH i d hi h0 h1 q rt a acc hq ha b0 b1 hd x.1 x.2.1 x.2.2 hb h
    |ok x=>
     obtain ⟨e,j⟩:=x
     have h:(if isT l j (tc 41)=true then okR e (j+1) else errR 4 j (d+1))=some res:=h
     cases b2:isT l j (tc 41) with
     |true=>rw [b2] at h;exact ru_par_ok l wf n IH i d hi h0 h1 q rt a acc hq ha b0 b1 hd e j hb b2 h
     |false=>rw [b2] at h;exact ru_par_no l wf n IH i d hi h0 h1 q rt a acc hq ha b0 b1 hd e j hb b2 h
 |false=>
 rw [if_neg (by rw [b1];exact Bool.false_ne_true)] at h
 by_cases k2:(tk l i).kind=2
 ·rw [if_pos k2] at h
  exact ru_num l wf n IH i d hi h0 h1 q rt a acc hq ha b0 b1 k2 h
 rw [if_neg k2] at h
 by_cases k1:(tk l i).kind=1
 ·rw [if_pos k1] at h
  exact ru_name l wf n IH i d hi h0 h1 q rt a acc hq ha b0 b1 k1 h
 rw [if_neg k1] at h
 exact ru_none l wf n IH i d hi h0 h1 q rt a acc hq ha b0 b1 k2 k1 h
end Go.Proofs.Hk

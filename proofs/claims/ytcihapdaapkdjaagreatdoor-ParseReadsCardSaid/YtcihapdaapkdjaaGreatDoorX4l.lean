import Derived.Test.YtcihapdaapkdjaaGreatDoorX4u
import Derived.Test.YtcihapdaapkdjaaGreatDoorH41
set_option linter.unusedSimpArgs false
set_option linter.unusedVariables false
set_option maxRecDepth 4000
namespace Go.Proofs.Hk
open Go Go.Proofs
def sg:Nat→ByteArray
 |0=>tEq
 |1=>tNe
 |2=>tc 60
 |3=>tLe
 |4=>tc 62
 |_=>tGe
def sgs:List HV:=[.v (.string ⟨#[61,61]⟩),.v (.string ⟨#[33,61]⟩),.v (.string ⟨#[60]⟩),.v (.string ⟨#[60,61]⟩),.v (.string ⟨#[62]⟩),.v (.string ⟨#[62,61]⟩)]
theorem sgs_at {i:Nat} (h:i < 6):sgs.getD (i:Int).toNat default=ss (sg i):=by
 rw [Int.toNat_natCast]
 match i,h with
 |0,_=>rfl
 |1,_=>rfl
 |2,_=>rfl
 |3,_=>rfl
 |4,_=>rfl
 |5,_=>rfl
theorem rel_none {l:List Tk} {j:Nat} (h:relK l j=none):∀ m,m < 6→isT l j (sg m)=false:=by
 unfold relK at h
 intro m hm
 split at h
 ·cases h
 split at h
 ·cases h
 split at h
 ·cases h
 split at h
 ·cases h
 split at h
 ·cases h
 split at h
 ·cases h
 rename_i h0 h1 h2 h3 h4 h5
 match m,hm with
 |0,_=>exact Bool.eq_false_iff.2 h0
 |1,_=>exact Bool.eq_false_iff.2 h1
 |2,_=>exact Bool.eq_false_iff.2 h2
 |3,_=>exact Bool.eq_false_iff.2 h3
 |4,_=>exact Bool.eq_false_iff.2 h4
 |5,_=>exact Bool.eq_false_iff.2 h5
theorem rel_some {l:List Tk} {j:Nat} {k:Int} (h:relK l j=some k):∃ m,m < 6∧isT l j (sg m)=true∧k=12+(m:Int)∧∀ m',m' < m→isT l j (sg m')=false:=by
 unfold relK at h
 split at h
 ·rename_i h0;cases h;exact ⟨0,by decide,h0,rfl,fun m hm=>by omega⟩
 rename_i h0
 split at h
 ·rename_i h1;cases h;exact ⟨1,by decide,h1,rfl,fun m hm=>by match m,hm with|0,_=>exact Bool.eq_false_iff.2 h0⟩
 rename_i h1
 split at h
 ·rename_i h2;cases h;exact ⟨2,by decide,h2,rfl,fun m hm=>by match m,hm with|0,_=>exact Bool.eq_false_iff.2 h0|1,_=>exact Bool.eq_false_iff.2 h1⟩
 rename_i h2
 split at h
 ·rename_i h3;cases h;exact ⟨3,by decide,h3,rfl,fun m hm=>by match m,hm with|0,_=>exact Bool.eq_false_iff.2 h0|1,_=>exact Bool.eq_false_iff.2 h1|2,_=>exact Bool.eq_false_iff.2 h2⟩
 rename_i h3
 split at h
 ·rename_i h4;cases h;exact ⟨4,by decide,h4,rfl,fun m hm=>by match m,hm with|0,_=>exact Bool.eq_false_iff.2 h0|1,_=>exact Bool.eq_false_iff.2 h1|2,_=>exact Bool.eq_false_iff.2 h2|3,_=>exact Bool.eq_false_iff.2 h3⟩
 rename_i h4
 split at h
 ·rename_i h5;cases h;exact ⟨5,by decide,h5,rfl,fun m hm=>by match m,hm with|0,_=>exact Bool.eq_false_iff.2 h0|1,_=>exact Bool.eq_false_iff.2 h1|2,_=>exact Bool.eq_false_iff.2 h2|3,_=>exact Bool.eq_false_iff.2 h3|4,_=>exact Bool.eq_false_iff.2 h4⟩
 ·cases h
set_option maxHeartbeats 4000000 in
theorem rl_not_deep (l:List Tk) (wf:WfN l) (n:Nat) (IH:AllX l n) (i:Nat) (d:Int) (hi:i < l.length) (h0:0≤d) (h1:d≤50) (q rt:Nat) (a:Int) (acc:List ND) (hq:q≠rt) (ha:acc.length≤i) (b0:isT l i tNot=true) (hd:50≤d) {res} (h:(errR 5 i d:Res' Ex)=some res):ExG l q rt acc i d a 71 res:=by
 have wt:=wf.toWfT
 have wl:=wt.len
 have hq':rt≠q:=Ne.symm hq
 have g0:=getD_tk hi
 have ma:(acc.map encN).length=acc.length:=by simp
 cases h
 have I0:=ris_ok q l i d a tNot hi
 rw [b0] at I0
 have O:=ropen_deep q l i d a tNot hi b0 hd (by omega)
 have U:=(rlit_er l).er q rt i (d+1) 5 (tk l i).pos acc hi hq (by decide)
 refine ExG.of ?_
 clear IH
 unfold rs ow at *
 refine sem_calls' cx (fn:=Tryz.f71) rfl rfl rfl rfl ?_
 repeat' first|refine Ops.tag rfl ?_|(refine OpsT.go ?_;(conv=>arg 7;whnf))|((with_reducible refine Stp.isSum ?_);refine Stp.sum ?_)|((with_reducible refine Stp.isNe ?_);first|refine Stp.neF ?_)|refine Stp.pure rfl ?_|((with_reducible refine PutK.isSet ?_);refine PutK.st ?_)|refine PutK.mk' rfl ?_|refine Ops.nil ?_|((with_reducible refine Look.id ?_);refine Look.at ?_;try (conv=>arg 7;whnf))|((with_reducible refine Side.id ?_);first|refine Side.auto ?_)|((with_reducible refine Br.id ?_);first|(with_reducible first|refine br_true rfl ?_|refine br_false rfl ?_))|((with_reducible refine SemWp.id ?_);first|refine sem_seq ?_|refine sem_region rfl ?_|refine sem_cond rfl ?_|refine sem_block ?_|refine sem_ret ?_)|((with_reducible refine qThen.id ?_);first|refine qThen.go ?_|refine qThen.ret ?_)|((with_reducible refine hinBlock.id ?_);first|refine hinBlock.ret ?_)|refine Stp.valS ?_|refine Stp.look ?_|refine Stp.call ?_|refine Stp.eff ?_|((with_reducible refine CallWp.id ?_);first|(refine callA cx (I0) ?_;(conv=>whnf))|(refine callA cx (O) ?_;(conv=>whnf))|(refine callA cx (U) ?_;(conv=>whnf)))|((with_reducible refine BodyR.id ?_);first|refine BodyR.ret ?_)|((with_reducible refine ResG.id ?_);first|refine ResG.tmp rfl ?_|refine ResG.nil ?_)|((with_reducible refine Upd.id ?_);first|(refine Upd.lit rfl ?_;(conv=>whnf)))|rw [ma]
 try rw [show d+1 - 1=d from by omega]
 refine Fin.mk ⟨acc ++ [⟨18,0,noS,(acc.length:Int) - 1,-1⟩],by rw [snoc_len];omega,by rw [ow_snoc];exact WeakerE.refl _,?_⟩
 rw [snoc_len]
 exact Subp.tk
set_option maxHeartbeats 4000000 in
theorem rl_not_er (l:List Tk) (wf:WfN l) (n:Nat) (IH:AllX l n) (i:Nat) (d:Int) (hi:i < l.length) (h0:0≤d) (h1:d≤50) (q rt:Nat) (a:Int) (acc:List ND) (hq:q≠rt) (ha:acc.length≤i) (b0:isT l i tNot=true) (hd:¬ 50≤d) (c:Int) (j:Nat) (d':Int) (hb:pE l n .lit (d+1) (i+1)=some (.error (c,j,d'))) {res} (h:(errR c j d':Res' Ex)=some res):ExG l q rt acc i d a 71 res:=by
 have wt:=wf.toWfT
 have wl:=wt.len
 have hq':rt≠q:=Ne.symm hq
 have g0:=getD_tk hi
 have ma:(acc.map encN).length=acc.length:=by simp
 cases h
 have I0:=ris_ok q l i d a tNot hi
 rw [b0] at I0
 have hi1:=wt.more i hi (isT_kind b0)
 obtain ⟨hj,hij,hc⟩:=pE_err wt _ _ _ _ hi1 _ _ _ hb
 have c0:¬ c=0:=by omega
 have O:=ropen_yes q l i d a tNot wt hi b0 hd h0
 have C:=IH.lit n (Nat.le_refl _) (d+1) (i+1) _ hi1 (by omega) (by omega) hb q rt a acc hq (by omega)
 simp only [ExG] at C
 clear hb
 refine ExG.of ?_
 clear IH
 unfold rs ow at *
 refine sem_calls' cx (fn:=Tryz.f71) rfl rfl rfl rfl ?_
 repeat' first|refine Ops.tag rfl ?_|(refine OpsT.go ?_;(conv=>arg 7;whnf))|((with_reducible refine Stp.isSum ?_);refine Stp.sum ?_)|((with_reducible refine Stp.isNe ?_);first|refine Stp.neF ?_)|refine Stp.pure rfl ?_|((with_reducible refine PutK.isSet ?_);refine PutK.st ?_)|refine PutK.mk' rfl ?_|refine Ops.nil ?_|((with_reducible refine Look.id ?_);refine Look.at ?_;try (conv=>arg 7;whnf))|((with_reducible refine Side.id ?_);first|refine Side.auto ?_)|((with_reducible refine Br.id ?_);first|(with_reducible first|refine br_true rfl ?_|refine br_false rfl ?_))|((with_reducible refine SemWp.id ?_);first|refine sem_seq ?_|refine sem_region rfl ?_|refine sem_cond rfl ?_|refine sem_block ?_|refine sem_ret ?_)|((with_reducible refine qThen.id ?_);first|refine qThen.go ?_|refine qThen.ret ?_)|((with_reducible refine hinBlock.id ?_);first|refine hinBlock.ret ?_)|refine Stp.valS ?_|refine Stp.look ?_|refine Stp.call ?_|refine Stp.eff ?_|((with_reducible refine CallWp.id ?_);first|(refine callA cx (I0) ?_;(conv=>whnf))|(refine callA cx (O) ?_;(conv=>whnf))|(refine callX cx (C) (fun g hg=>?_);(conv=>whnf)))|((with_reducible refine BodyR.id ?_);first|refine BodyR.ret ?_)|((with_reducible refine ResG.id ?_);first|refine ResG.tmp rfl ?_|refine ResG.nil ?_)|((with_reducible refine Upd.id ?_);first|(refine Upd.lit rfl ?_;(conv=>whnf)))
 try rw [show d+1 - 1=d from by omega]
 refine Fin.mk ⟨g ++ [⟨18,0,noS,(g.length:Int) - 1,-1⟩],by rw [snoc_len];omega,by rw [ow_snoc];simp only [List.length_map];rw [wrap64 (by omega)];exact WeakerE.refl _,?_⟩
 rw [snoc_len]
 exact Subp.tk
set_option maxHeartbeats 4000000 in
theorem rl_not_ok (l:List Tk) (wf:WfN l) (n:Nat) (IH:AllX l n) (i:Nat) (d:Int) (hi:i < l.length) (h0:0≤d) (h1:d≤50) (q rt:Nat) (a:Int) (acc:List ND) (hq:q≠rt) (ha:acc.length≤i) (b0:isT l i tNot=true) (hd:¬ 50≤d) (e:Ex) (j:Nat) (hb:pE l n .lit (d+1) (i+1)=some (.ok (e,j))) {res} (h:okR (.un 18 e) j=some res):ExG l q rt acc i d a 71 res:=by
 have wt:=wf.toWfT
 have wl:=wt.len
 have hq':rt≠q:=Ne.symm hq
 have g0:=getD_tk hi
 have ma:(acc.map encN).length=acc.length:=by simp
 cases h
 have I0:=ris_ok q l i d a tNot hi
 rw [b0] at I0
 have hi1:=wt.more i hi (isT_kind b0)
 obtain ⟨hj,hij,hl⟩:=pE_facts wt _ _ _ _ _ _ hi1 hb
 simp only [Lv.base] at hl
 have zl:=gl_len acc e
 have mg:((gl acc e).map encN).length=(gl acc e).length:=by simp
 have O:=ropen_yes q l i d a tNot wt hi b0 hd h0
 have C:To 71 [.ptr q 0,ow rt acc] [(q,rs l (i+1) (d+1) 0 a),(rt,.tok acc.length)] (.ret (ow rt (gl acc e))) [(q,rs l j (d+1) 0 a),(rt,.tok (gl acc e).length)]:=IH.lit n (Nat.le_refl _) (d+1) (i+1) _ hi1 (by omega) (by omega) hb q rt a acc hq (by omega)
 clear hb
 refine ExG.of ?_
 clear IH
 unfold rs ow at *
 refine sem_calls' cx (fn:=Tryz.f71) rfl rfl rfl rfl ?_
 repeat' first|refine Ops.tag rfl ?_|(refine OpsT.go ?_;(conv=>arg 7;whnf))|((with_reducible refine Stp.isSum ?_);refine Stp.sum ?_)|((with_reducible refine Stp.isNe ?_);first|refine Stp.neF ?_)|refine Stp.pure rfl ?_|((with_reducible refine PutK.isSet ?_);refine PutK.st ?_)|refine PutK.mk' rfl ?_|refine Ops.nil ?_|((with_reducible refine Look.id ?_);refine Look.at ?_;try (conv=>arg 7;whnf))|((with_reducible refine Side.id ?_);first|refine Side.auto ?_)|((with_reducible refine Br.id ?_);first|(with_reducible first|refine br_true rfl ?_|refine br_false rfl ?_))|((with_reducible refine SemWp.id ?_);first|refine sem_seq ?_|refine sem_region rfl ?_|refine sem_cond rfl ?_|refine sem_block ?_|refine sem_ret ?_)|((with_reducible refine qThen.id ?_);first|refine qThen.go ?_|refine qThen.ret ?_)|((with_reducible refine hinBlock.id ?_);first|refine hinBlock.ret ?_)|refine Stp.valS ?_|refine Stp.look ?_|refine Stp.call ?_|refine Stp.eff ?_|((with_reducible refine CallWp.id ?_);first|(refine callA cx (I0) ?_;(conv=>whnf))|(refine callA cx (O) ?_;(conv=>whnf))|(refine callA cx (C) ?_;(conv=>whnf)))|((with_reducible refine BodyR.id ?_);first|refine BodyR.ret ?_)|((with_reducible refine ResG.id ?_);first|refine ResG.tmp rfl ?_|refine ResG.nil ?_)|((with_reducible refine Upd.id ?_);first|(refine Upd.lit rfl ?_;(conv=>whnf)))|rw [mg]
 try rw [show d+1 - 1=d from by omega]
 have eb:=gl_un acc 18 e
 refine Fin.mk ⟨by show WeakerE _ (HEnd.ret (ow rt (gl acc (.un 18 e))));rw [eb,ow_snoc];exact WeakerE.refl _,?_⟩
 show Subp [(q,_),(rt,Res.tok (gl acc (.un 18 e)).length)] _
 rw [eb,snoc_len]
 exact Subp.tk
set_option maxHeartbeats 4000000 in
theorem rl_sq_deep (l:List Tk) (wf:WfN l) (n:Nat) (IH:AllX l n) (i:Nat) (d:Int) (hi:i < l.length) (h0:0≤d) (h1:d≤50) (q rt:Nat) (a:Int) (acc:List ND) (hq:q≠rt) (ha:acc.length≤i) (m0:isT l i tNot=false) (b0:isT l i (tc 91)=true) (hd:50≤d) {res} (h:(errR 5 i d:Res' Ex)=some res):ExG l q rt acc i d a 71 res:=by
 have wt:=wf.toWfT
 have wl:=wt.len
 have hq':rt≠q:=Ne.symm hq
 have g0:=getD_tk hi
 have ma:(acc.map encN).length=acc.length:=by simp
 cases h
 have I0:=ris_ok q l i d a tNot hi
 rw [m0] at I0
 have I1:=ris_ok q l i d a (tc 91) hi
 rw [b0] at I1
 have O:=ropen_deep q l i d a (tc 91) hi b0 hd (by omega)
 have U:=(rcond_er l).er q rt i (d+1) 5 (tk l i).pos acc hi hq (by decide)
 have W:=rwant_er q l i (d+1) 5 (tk l i).pos (tc 93) hi (by decide)
 refine ExG.of ?_
 clear IH
 unfold rs ow at *
 refine sem_calls' cx (fn:=Tryz.f71) rfl rfl rfl rfl ?_
 repeat' first|refine Ops.tag rfl ?_|(refine OpsT.go ?_;(conv=>arg 7;whnf))|((with_reducible refine Stp.isSum ?_);refine Stp.sum ?_)|((with_reducible refine Stp.isNe ?_);first|refine Stp.neF ?_)|refine Stp.pure rfl ?_|((with_reducible refine PutK.isSet ?_);refine PutK.st ?_)|refine PutK.mk' rfl ?_|refine Ops.nil ?_|((with_reducible refine Look.id ?_);refine Look.at ?_;try (conv=>arg 7;whnf))|((with_reducible refine Side.id ?_);first|refine Side.auto ?_)|((with_reducible refine Br.id ?_);first|(with_reducible first|refine br_true rfl ?_|refine br_false rfl ?_))|((with_reducible refine SemWp.id ?_);first|refine sem_seq ?_|refine sem_region rfl ?_|refine sem_cond rfl ?_|refine sem_block ?_|refine sem_ret ?_)|((with_reducible refine qThen.id ?_);first|refine qThen.go ?_|refine qThen.ret ?_)|((with_reducible refine hinBlock.id ?_);first|refine hinBlock.ret ?_)|refine Stp.valS ?_|refine Stp.look ?_|refine Stp.call ?_|refine Stp.eff ?_|((with_reducible refine CallWp.id ?_);first|(refine callA cx (I0) ?_;(conv=>whnf))|(refine callA cx (I1) ?_;(conv=>whnf))|(refine callA cx (O) ?_;(conv=>whnf))|(refine callA cx (U) ?_;(conv=>whnf))|(refine callA cx (W) ?_;(conv=>whnf)))|((with_reducible refine BodyR.id ?_);first|refine BodyR.ret ?_)|((with_reducible refine ResG.id ?_);first|refine ResG.tmp rfl ?_|refine ResG.nil ?_)|((with_reducible refine Upd.id ?_);first|(refine Upd.lit rfl ?_;(conv=>whnf)))
 try rw [show d+1 - 1=d from by omega]
 refine Fin.mk ⟨acc,by omega,WeakerE.refl _,Subp.tk⟩
set_option maxHeartbeats 4000000 in
theorem rl_sq_er (l:List Tk) (wf:WfN l) (n:Nat) (IH:AllX l n) (i:Nat) (d:Int) (hi:i < l.length) (h0:0≤d) (h1:d≤50) (q rt:Nat) (a:Int) (acc:List ND) (hq:q≠rt) (ha:acc.length≤i) (m0:isT l i tNot=false) (b0:isT l i (tc 91)=true) (hd:¬ 50≤d) (c:Int) (j:Nat) (d':Int) (hb:pE l n .cond (d+1) (i+1)=some (.error (c,j,d'))) {res} (h:(errR c j d':Res' Ex)=some res):ExG l q rt acc i d a 71 res:=by
 have wt:=wf.toWfT
 have wl:=wt.len
 have hq':rt≠q:=Ne.symm hq
 have g0:=getD_tk hi
 have ma:(acc.map encN).length=acc.length:=by simp
 cases h
 have I0:=ris_ok q l i d a tNot hi
 rw [m0] at I0
 have I1:=ris_ok q l i d a (tc 91) hi
 rw [b0] at I1
 have hi1:=wt.more i hi (isT_kind b0)
 obtain ⟨hj,hij,hc⟩:=pE_err wt _ _ _ _ hi1 _ _ _ hb
 have c0:¬ c=0:=by omega
 have O:=ropen_yes q l i d a (tc 91) wt hi b0 hd h0
 have C:=IH.cond n (Nat.le_refl _) (d+1) (i+1) _ hi1 (by omega) (by omega) hb q rt a acc hq (by omega)
 simp only [ExG] at C
 have W:=rwant_er q l j (d+1) c (tk l j).pos (tc 93) hj c0
 clear hb
 refine ExG.of ?_
 clear IH
 unfold rs ow at *
 refine sem_calls' cx (fn:=Tryz.f71) rfl rfl rfl rfl ?_
 repeat' first|refine Ops.tag rfl ?_|(refine OpsT.go ?_;(conv=>arg 7;whnf))|((with_reducible refine Stp.isSum ?_);refine Stp.sum ?_)|((with_reducible refine Stp.isNe ?_);first|refine Stp.neF ?_)|refine Stp.pure rfl ?_|((with_reducible refine PutK.isSet ?_);refine PutK.st ?_)|refine PutK.mk' rfl ?_|refine Ops.nil ?_|((with_reducible refine Look.id ?_);refine Look.at ?_;try (conv=>arg 7;whnf))|((with_reducible refine Side.id ?_);first|refine Side.auto ?_)|((with_reducible refine Br.id ?_);first|(with_reducible first|refine br_true rfl ?_|refine br_false rfl ?_))|((with_reducible refine SemWp.id ?_);first|refine sem_seq ?_|refine sem_region rfl ?_|refine sem_cond rfl ?_|refine sem_block ?_|refine sem_ret ?_)|((with_reducible refine qThen.id ?_);first|refine qThen.go ?_|refine qThen.ret ?_)|((with_reducible refine hinBlock.id ?_);first|refine hinBlock.ret ?_)|refine Stp.valS ?_|refine Stp.look ?_|refine Stp.call ?_|refine Stp.eff ?_|((with_reducible refine CallWp.id ?_);first|(refine callA cx (I0) ?_;(conv=>whnf))|(refine callA cx (I1) ?_;(conv=>whnf))|(refine callA cx (O) ?_;(conv=>whnf))|(refine callX cx (C) (fun g hg=>?_);(conv=>whnf))|(refine callA cx (W) ?_;(conv=>whnf)))|((with_reducible refine BodyR.id ?_);first|refine BodyR.ret ?_)|((with_reducible refine ResG.id ?_);first|refine ResG.tmp rfl ?_|refine ResG.nil ?_)|((with_reducible refine Upd.id ?_);first|(refine Upd.lit rfl ?_;(conv=>whnf)))
 try rw [show d+1 - 1=d from by omega]
 refine Fin.mk ⟨g,by omega,WeakerE.refl _,Subp.tk⟩
set_option maxHeartbeats 4000000 in
theorem rl_sq_ok (l:List Tk) (wf:WfN l) (n:Nat) (IH:AllX l n) (i:Nat) (d:Int) (hi:i < l.length) (h0:0≤d) (h1:d≤50) (q rt:Nat) (a:Int) (acc:List ND) (hq:q≠rt) (ha:acc.length≤i) (m0:isT l i tNot=false) (b0:isT l i (tc 91)=true) (hd:¬ 50≤d) (e:Ex) (j:Nat) (hb:pE l n .cond (d+1) (i+1)=some (.ok (e,j))) (b2:isT l j (tc 93)=true) {res} (h:okR e (j+1)=some res):ExG l q rt acc i d a 71 res:=by
 have wt:=wf.toWfT
 have wl:=wt.len
 have hq':rt≠q:=Ne.symm hq
 have g0:=getD_tk hi
 have ma:(acc.map encN).length=acc.length:=by simp
 cases h
 have I0:=ris_ok q l i d a tNot hi
 rw [m0] at I0
 have I1:=ris_ok q l i d a (tc 91) hi
 rw [b0] at I1
 have hi1:=wt.more i hi (isT_kind b0)
 obtain ⟨hj,hij,hl⟩:=pE_facts wt _ _ _ _ _ _ hi1 hb
 simp only [Lv.base] at hl
 have zl:=gl_len acc e
 have mg:((gl acc e).map encN).length=(gl acc e).length:=by simp
 have O:=ropen_yes q l i d a (tc 91) wt hi b0 hd h0
 have C:To 53 [.ptr q 0,ow rt acc] [(q,rs l (i+1) (d+1) 0 a),(rt,.tok acc.length)] (.ret (ow rt (gl acc e))) [(q,rs l j (d+1) 0 a),(rt,.tok (gl acc e).length)]:=IH.cond n (Nat.le_refl _) (d+1) (i+1) _ hi1 (by omega) (by omega) hb q rt a acc hq (by omega)
 clear hb
 have W:=rwant_yes q l j (d+1) a (tc 93) wt hj b2
 refine ExG.of ?_
 clear IH
 unfold rs ow at *
 refine sem_calls' cx (fn:=Tryz.f71) rfl rfl rfl rfl ?_
 repeat' first|refine Ops.tag rfl ?_|(refine OpsT.go ?_;(conv=>arg 7;whnf))|((with_reducible refine Stp.isSum ?_);refine Stp.sum ?_)|((with_reducible refine Stp.isNe ?_);first|refine Stp.neF ?_)|refine Stp.pure rfl ?_|((with_reducible refine PutK.isSet ?_);refine PutK.st ?_)|refine PutK.mk' rfl ?_|refine Ops.nil ?_|((with_reducible refine Look.id ?_);refine Look.at ?_;try (conv=>arg 7;whnf))|((with_reducible refine Side.id ?_);first|refine Side.auto ?_)|((with_reducible refine Br.id ?_);first|(with_reducible first|refine br_true rfl ?_|refine br_false rfl ?_))|((with_reducible refine SemWp.id ?_);first|refine sem_seq ?_|refine sem_region rfl ?_|refine sem_cond rfl ?_|refine sem_block ?_|refine sem_ret ?_)|((with_reducible refine qThen.id ?_);first|refine qThen.go ?_|refine qThen.ret ?_)|((with_reducible refine hinBlock.id ?_);first|refine hinBlock.ret ?_)|refine Stp.valS ?_|refine Stp.look ?_|refine Stp.call ?_|refine Stp.eff ?_|((with_reducible refine CallWp.id ?_);first|(refine callA cx (I0) ?_;(conv=>whnf))|(refine callA cx (I1) ?_;(conv=>whnf))|(refine callA cx (O) ?_;(conv=>whnf))|(refine callA cx (C) ?_;(conv=>whnf))|(refine callA cx (W) ?_;(conv=>whnf)))|((with_reducible refine BodyR.id ?_);first|refine BodyR.ret ?_)|((with_reducible refine ResG.id ?_);first|refine ResG.tmp rfl ?_|refine ResG.nil ?_)|((with_reducible refine Upd.id ?_);first|(refine Upd.lit rfl ?_;(conv=>whnf)))
 try rw [show d+1 - 1=d from by omega]
 refine Fin.mk ⟨WeakerE.refl _,Subp.tk⟩
set_option maxHeartbeats 4000000 in
theorem rl_sq_no (l:List Tk) (wf:WfN l) (n:Nat) (IH:AllX l n) (i:Nat) (d:Int) (hi:i < l.length) (h0:0≤d) (h1:d≤50) (q rt:Nat) (a:Int) (acc:List ND) (hq:q≠rt) (ha:acc.length≤i) (m0:isT l i tNot=false) (b0:isT l i (tc 91)=true) (hd:¬ 50≤d) (e:Ex) (j:Nat) (hb:pE l n .cond (d+1) (i+1)=some (.ok (e,j))) (b2:isT l j (tc 93)=false) {res} (h:(errR 4 j (d+1):Res' Ex)=some res):ExG l q rt acc i d a 71 res:=by
 have wt:=wf.toWfT
 have wl:=wt.len
 have hq':rt≠q:=Ne.symm hq
 have g0:=getD_tk hi
 have ma:(acc.map encN).length=acc.length:=by simp
 cases h
 have I0:=ris_ok q l i d a tNot hi
 rw [m0] at I0
 have I1:=ris_ok q l i d a (tc 91) hi
 rw [b0] at I1
 have hi1:=wt.more i hi (isT_kind b0)
 obtain ⟨hj,hij,hl⟩:=pE_facts wt _ _ _ _ _ _ hi1 hb
 simp only [Lv.base] at hl
 have zl:=gl_len acc e
 have mg:((gl acc e).map encN).length=(gl acc e).length:=by simp
 have O:=ropen_yes q l i d a (tc 91) wt hi b0 hd h0
 have C:To 53 [.ptr q 0,ow rt acc] [(q,rs l (i+1) (d+1) 0 a),(rt,.tok acc.length)] (.ret (ow rt (gl acc e))) [(q,rs l j (d+1) 0 a),(rt,.tok (gl acc e).length)]:=IH.cond n (Nat.le_refl _) (d+1) (i+1) _ hi1 (by omega) (by omega) hb q rt a acc hq (by omega)
 clear hb
 have W:=rwant_no q l j (d+1) a (tc 93) hj b2
 refine ExG.of ?_
 clear IH
 unfold rs ow at *
 refine sem_calls' cx (fn:=Tryz.f71) rfl rfl rfl rfl ?_
 repeat' first|refine Ops.tag rfl ?_|(refine OpsT.go ?_;(conv=>arg 7;whnf))|((with_reducible refine Stp.isSum ?_);refine Stp.sum ?_)|((with_reducible refine Stp.isNe ?_);first|refine Stp.neF ?_)|refine Stp.pure rfl ?_|((with_reducible refine PutK.isSet ?_);refine PutK.st ?_)|refine PutK.mk' rfl ?_|refine Ops.nil ?_|((with_reducible refine Look.id ?_);refine Look.at ?_;try (conv=>arg 7;whnf))|((with_reducible refine Side.id ?_);first|refine Side.auto ?_)|((with_reducible refine Br.id ?_);first|(with_reducible first|refine br_true rfl ?_|refine br_false rfl ?_))|((with_reducible refine SemWp.id ?_);first|refine sem_seq ?_|refine sem_region rfl ?_|refine sem_cond rfl ?_|refine sem_block ?_|refine sem_ret ?_)|((with_reducible refine qThen.id ?_);first|refine qThen.go ?_|refine qThen.ret ?_)|((with_reducible refine hinBlock.id ?_);first|refine hinBlock.ret ?_)|refine Stp.valS ?_|refine Stp.look ?_|refine Stp.call ?_|refine Stp.eff ?_|((with_reducible refine CallWp.id ?_);first|(refine callA cx (I0) ?_;(conv=>whnf))|(refine callA cx (I1) ?_;(conv=>whnf))|(refine callA cx (O) ?_;(conv=>whnf))|(refine callA cx (C) ?_;(conv=>whnf))|(refine callA cx (W) ?_;(conv=>whnf)))|((with_reducible refine BodyR.id ?_);first|refine BodyR.ret ?_)|((with_reducible refine ResG.id ?_);first|refine ResG.tmp rfl ?_|refine ResG.nil ?_)|((with_reducible refine Upd.id ?_);first|(refine Upd.lit rfl ?_;(conv=>whnf)))
 try rw [show d+1 - 1=d from by omega]
 refine Fin.mk ⟨gl acc e,by omega,WeakerE.refl _,Subp.tk⟩
set_option maxHeartbeats 4000000 in
theorem rl_true (l:List Tk) (wf:WfN l) (n:Nat) (IH:AllX l n) (i:Nat) (d:Int) (hi:i < l.length) (h0:0≤d) (h1:d≤50) (q rt:Nat) (a:Int) (acc:List ND) (hq:q≠rt) (ha:acc.length≤i) (m0:isT l i tNot=false) (m1:isT l i (tc 91)=false) (b0:isT l i tTrue=true) {res} (h:okR (.leaf 9) (i+1)=some res):ExG l q rt acc i d a 71 res:=by
 have wt:=wf.toWfT
 have wl:=wt.len
 have hq':rt≠q:=Ne.symm hq
 have g0:=getD_tk hi
 have ma:(acc.map encN).length=acc.length:=by simp
 cases h
 have I0:=ris_ok q l i d a tNot hi
 rw [m0] at I0
 have I1:=ris_ok q l i d a (tc 91) hi
 rw [m1] at I1
 have T0:=rtake_yes q l i d a tTrue wt hi b0
 have hi1:=wt.more i hi (isT_kind b0)
 have L:=rleaf_spec rt acc 9 0 noS 0 0 (by omega)
 refine ExG.of ?_
 clear IH
 unfold rs ow at *
 refine sem_calls' cx (fn:=Tryz.f71) rfl rfl rfl rfl ?_
 repeat' first|refine Ops.tag rfl ?_|(refine OpsT.go ?_;(conv=>arg 7;whnf))|((with_reducible refine Stp.isNe ?_);first|refine Stp.neF ?_)|refine Stp.pure rfl ?_|refine PutK.mk' rfl ?_|refine Ops.nil ?_|((with_reducible refine Look.id ?_);refine Look.at ?_;try (conv=>arg 7;whnf))|((with_reducible refine Side.id ?_);first|refine Side.auto ?_)|((with_reducible refine Br.id ?_);first|(with_reducible first|refine br_true rfl ?_|refine br_false rfl ?_))|((with_reducible refine SemWp.id ?_);first|refine sem_seq ?_|refine sem_region rfl ?_|refine sem_cond rfl ?_|refine sem_block ?_|refine sem_ret ?_)|((with_reducible refine qThen.id ?_);first|refine qThen.go ?_|refine qThen.ret ?_)|((with_reducible refine hinBlock.id ?_);first|refine hinBlock.ret ?_)|refine Stp.valS ?_|refine Stp.look ?_|refine Stp.call ?_|((with_reducible refine CallWp.id ?_);first|(refine callA cx (I0) ?_;(conv=>whnf))|(refine callA cx (I1) ?_;(conv=>whnf))|(refine callA cx (T0) ?_;(conv=>whnf))|(refine callA cx (L) ?_;(conv=>whnf)))|((with_reducible refine BodyR.id ?_);first|refine BodyR.ret ?_)|((with_reducible refine ResG.id ?_);first|refine ResG.tmp rfl ?_|refine ResG.nil ?_)
 try rw [show d+1 - 1=d from by omega]
 refine Fin.mk ⟨WeakerE.refl _,Subp.tk⟩
set_option maxHeartbeats 4000000 in
theorem rl_false (l:List Tk) (wf:WfN l) (n:Nat) (IH:AllX l n) (i:Nat) (d:Int) (hi:i < l.length) (h0:0≤d) (h1:d≤50) (q rt:Nat) (a:Int) (acc:List ND) (hq:q≠rt) (ha:acc.length≤i) (m0:isT l i tNot=false) (m1:isT l i (tc 91)=false) (n0:isT l i tTrue=false) (b0:isT l i tFalse=true) {res} (h:okR (.leaf 10) (i+1)=some res):ExG l q rt acc i d a 71 res:=by
 have wt:=wf.toWfT
 have wl:=wt.len
 have hq':rt≠q:=Ne.symm hq
 have g0:=getD_tk hi
 have ma:(acc.map encN).length=acc.length:=by simp
 cases h
 have I0:=ris_ok q l i d a tNot hi
 rw [m0] at I0
 have I1:=ris_ok q l i d a (tc 91) hi
 rw [m1] at I1
 have T0:=rtake_no q l i d a tTrue hi n0
 have T1:=rtake_yes q l i d a tFalse wt hi b0
 have hi1:=wt.more i hi (isT_kind b0)
 have L:=rleaf_spec rt acc 10 0 noS 0 0 (by omega)
 refine ExG.of ?_
 clear IH
 unfold rs ow at *
 refine sem_calls' cx (fn:=Tryz.f71) rfl rfl rfl rfl ?_
 repeat' first|refine Ops.tag rfl ?_|(refine OpsT.go ?_;(conv=>arg 7;whnf))|((with_reducible refine Stp.isNe ?_);first|refine Stp.neF ?_)|refine Stp.pure rfl ?_|refine PutK.mk' rfl ?_|refine Ops.nil ?_|((with_reducible refine Look.id ?_);refine Look.at ?_;try (conv=>arg 7;whnf))|((with_reducible refine Side.id ?_);first|refine Side.auto ?_)|((with_reducible refine Br.id ?_);first|(with_reducible first|refine br_true rfl ?_|refine br_false rfl ?_))|((with_reducible refine SemWp.id ?_);first|refine sem_seq ?_|refine sem_region rfl ?_|refine sem_cond rfl ?_|refine sem_block ?_|refine sem_ret ?_)|((with_reducible refine qThen.id ?_);first|refine qThen.go ?_|refine qThen.ret ?_)|((with_reducible refine hinBlock.id ?_);first|refine hinBlock.ret ?_)|refine Stp.valS ?_|refine Stp.look ?_|refine Stp.call ?_|((with_reducible refine CallWp.id ?_);first|(refine callA cx (I0) ?_;(conv=>whnf))|(refine callA cx (I1) ?_;(conv=>whnf))|(refine callA cx (T0) ?_;(conv=>whnf))|(refine callA cx (T1) ?_;(conv=>whnf))|(refine callA cx (L) ?_;(conv=>whnf)))|((with_reducible refine BodyR.id ?_);first|refine BodyR.ret ?_)|((with_reducible refine ResG.id ?_);first|refine ResG.tmp rfl ?_|refine ResG.nil ?_)
 try rw [show d+1 - 1=d from by omega]
 refine Fin.mk ⟨WeakerE.refl _,Subp.tk⟩
set_option maxHeartbeats 4000000 in
theorem rl_star (l:List Tk) (wf:WfN l) (n:Nat) (IH:AllX l n) (i:Nat) (d:Int) (hi:i < l.length) (h0:0≤d) (h1:d≤50) (q rt:Nat) (a:Int) (acc:List ND) (hq:q≠rt) (ha:acc.length≤i) (m0:isT l i tNot=false) (m1:isT l i (tc 91)=false) (n0:isT l i tTrue=false) (n1:isT l i tFalse=false) (b0:isT l i (tc 42)=true) {res} (h:okR (.leaf 11) (i+1)=some res):ExG l q rt acc i d a 71 res:=by
 have wt:=wf.toWfT
 have wl:=wt.len
 have hq':rt≠q:=Ne.symm hq
 have g0:=getD_tk hi
 have ma:(acc.map encN).length=acc.length:=by simp
 cases h
 have I0:=ris_ok q l i d a tNot hi
 rw [m0] at I0
 have I1:=ris_ok q l i d a (tc 91) hi
 rw [m1] at I1
 have T0:=rtake_no q l i d a tTrue hi n0
 have T1:=rtake_no q l i d a tFalse hi n1
 have T2:=rtake_yes q l i d a (tc 42) wt hi b0
 have hi1:=wt.more i hi (isT_kind b0)
 have L:=rleaf_spec rt acc 11 0 noS 0 0 (by omega)
 refine ExG.of ?_
 clear IH
 unfold rs ow at *
 refine sem_calls' cx (fn:=Tryz.f71) rfl rfl rfl rfl ?_
 repeat' first|refine Ops.tag rfl ?_|(refine OpsT.go ?_;(conv=>arg 7;whnf))|((with_reducible refine Stp.isNe ?_);first|refine Stp.neF ?_)|refine Stp.pure rfl ?_|refine PutK.mk' rfl ?_|refine Ops.nil ?_|((with_reducible refine Look.id ?_);refine Look.at ?_;try (conv=>arg 7;whnf))|((with_reducible refine Side.id ?_);first|refine Side.auto ?_)|((with_reducible refine Br.id ?_);first|(with_reducible first|refine br_true rfl ?_|refine br_false rfl ?_))|((with_reducible refine SemWp.id ?_);first|refine sem_seq ?_|refine sem_region rfl ?_|refine sem_cond rfl ?_|refine sem_block ?_|refine sem_ret ?_)|((with_reducible refine qThen.id ?_);first|refine qThen.go ?_|refine qThen.ret ?_)|((with_reducible refine hinBlock.id ?_);first|refine hinBlock.ret ?_)|refine Stp.valS ?_|refine Stp.look ?_|refine Stp.call ?_|((with_reducible refine CallWp.id ?_);first|(refine callA cx (I0) ?_;(conv=>whnf))|(refine callA cx (I1) ?_;(conv=>whnf))|(refine callA cx (T0) ?_;(conv=>whnf))|(refine callA cx (T1) ?_;(conv=>whnf))|(refine callA cx (T2) ?_;(conv=>whnf))|(refine callA cx (L) ?_;(conv=>whnf)))|((with_reducible refine BodyR.id ?_);first|refine BodyR.ret ?_)|((with_reducible refine ResG.id ?_);first|refine ResG.tmp rfl ?_|refine ResG.nil ?_)
 try rw [show d+1 - 1=d from by omega]
 refine Fin.mk ⟨WeakerE.refl _,Subp.tk⟩
set_option maxHeartbeats 4000000 in
theorem rl_rel_er (l:List Tk) (wf:WfN l) (n:Nat) (IH:AllX l n) (i:Nat) (d:Int) (hi:i < l.length) (h0:0≤d) (h1:d≤50) (q rt:Nat) (a:Int) (acc:List ND) (hq:q≠rt) (ha:acc.length≤i) (m0:isT l i tNot=false) (m1:isT l i (tc 91)=false) (n0:isT l i tTrue=false) (n1:isT l i tFalse=false) (n2:isT l i (tc 42)=false) (c:Int) (j:Nat) (d':Int) (hb:pE l n .expr d i=some (.error (c,j,d'))) {res} (h:(errR c j d':Res' Ex)=some res):ExG l q rt acc i d a 71 res:=by
 have wt:=wf.toWfT
 have wl:=wt.len
 have hq':rt≠q:=Ne.symm hq
 have g0:=getD_tk hi
 have ma:(acc.map encN).length=acc.length:=by simp
 cases h
 have I0:=ris_ok q l i d a tNot hi
 rw [m0] at I0
 have I1:=ris_ok q l i d a (tc 91) hi
 rw [m1] at I1
 have T0:=rtake_no q l i d a tTrue hi n0
 have T1:=rtake_no q l i d a tFalse hi n1
 have T2:=rtake_no q l i d a (tc 42) hi n2
 obtain ⟨hj,hij,hc⟩:=pE_err wt _ _ _ _ hi _ _ _ hb
 have c0:¬ c=0:=by omega
 have C:=IH.expr n (Nat.le_refl _) d i _ hi h0 h1 hb q rt a acc hq ha
 have TE:=fun s=>rtake_er q l j d c (tk l j).pos s hj c0
 have F:=rfail_er q l j d c (tk l j).pos 4 c0
 have l6:sgs.length=6:=rfl
 simp only [ExG] at C
 clear hb
 refine ExG.of ?_
 clear IH
 unfold rs ow at *
 refine sem_calls' cx (fn:=Tryz.f71) rfl rfl rfl rfl ?_
 repeat' first|refine Ops.tag rfl ?_|(refine OpsT.go ?_;(conv=>arg 7;whnf))|((with_reducible refine Stp.isNe ?_);first|refine Stp.neF ?_)|refine Stp.pure rfl ?_|refine PutK.mk' rfl ?_|refine Ops.nil ?_|((with_reducible refine Look.id ?_);refine Look.at ?_;try (conv=>arg 7;whnf))|((with_reducible refine Side.id ?_);first|refine Side.auto ?_)|((with_reducible refine Br.id ?_);first|(with_reducible first|refine br_false rfl ?_))|((with_reducible refine SemWp.id ?_);first|refine sem_seq ?_|refine sem_region rfl ?_|refine sem_cond rfl ?_|refine sem_block ?_|refine sem_skip ?_)|((with_reducible refine qThen.id ?_);first|refine qThen.go ?_)|((with_reducible refine hinBlock.id ?_);first|refine hinBlock.go ?_)|refine Stp.valS ?_|refine Stp.look ?_|refine Stp.call ?_|((with_reducible refine CallWp.id ?_);first|(refine callA cx (I0) ?_;(conv=>whnf))|(refine callA cx (I1) ?_;(conv=>whnf))|(refine callA cx (T0) ?_;(conv=>whnf))|(refine callA cx (T1) ?_;(conv=>whnf))|(refine callA cx (T2) ?_;(conv=>whnf))|(refine callX cx (C) (fun g hg=>?_);(conv=>whnf)))
 refine sem_loop cx (ι:=Nat) (fun i=>i≤6) (fun i=>[(0,.sure,.ptr q 0),(1,.sure,.list (.own rt 0) 5 (g.map encN)),(5,.sure,ii ((g.length:Int) - 1)),(6,.sure,.list .full 1 sgs),(7,.sure,ii i)]) (fun _=>[(q,.cells [LTk l,ii j,ii d,ii c,ii (tk l j).pos] 56),(rt,.tok g.length)]) (fun i=>6 - i) 0 (Nat.zero_le _) (by repeat' first|exact Sub.nil _|refine Sub.auto ?_ rfl (by first|rfl|assumption|omega|(simp;done)|(rw [List.length_map];rfl)|(rw [List.length_map,wrap64 (by omega)];rfl))) Subp.tk ?_
 intro m hm
 by_cases h6:m < 6
 ·have gs:=sgs_at h6
  repeat' first|refine Ops.tag rfl ?_|(refine OpsT.go ?_;(conv=>arg 7;whnf))|((with_reducible refine Stp.isSum ?_);refine Stp.sum ?_)|((with_reducible refine Stp.isDec ?_);first|refine Stp.decT ?_)|refine Stp.pure rfl ?_|refine PutK.mk' rfl ?_|refine Ops.nil ?_|((with_reducible refine Side.id ?_);first|refine Side.auto ?_)|((with_reducible refine Br.id ?_);first|(with_reducible first|refine br_true rfl ?_|refine br_false rfl ?_))|((with_reducible refine SemWp.id ?_);first|refine sem_seq ?_|refine sem_region rfl ?_|refine sem_cond rfl ?_|refine sem_block ?_|refine sem_skip ?_)|((with_reducible refine qThen.id ?_);first|refine qThen.go ?_)|((with_reducible refine hinBlock.id ?_);first|refine hinBlock.go ?_)|((with_reducible refine hround.id ?_);first|refine hround.go ?_)|refine Stp.valS ?_|refine Stp.call ?_|((with_reducible refine CallWp.id ?_);first|(refine callA cx (TE _) ?_;(conv=>whnf)))|rw [gs]
  refine Fin.mk ⟨m+1,by omega,by omega,by repeat' first|exact Sub.nil _|refine Sub.auto ?_,Subp.tk⟩
 ·have:m=6:=by omega
  subst this
  repeat' first|refine Ops.tag rfl ?_|(refine OpsT.go ?_;(conv=>arg 7;whnf))|((with_reducible refine Stp.isDec ?_);first|refine Stp.decF ?_)|refine Stp.pure rfl ?_|refine PutK.mk' rfl ?_|refine Ops.nil ?_|((with_reducible refine Side.id ?_);first|refine Side.auto ?_)|((with_reducible refine Br.id ?_);first|(with_reducible first|refine br_false rfl ?_))|((with_reducible refine SemWp.id ?_);first|refine sem_seq ?_|refine sem_region rfl ?_|refine sem_cond rfl ?_|refine sem_exit ?_|refine sem_ret ?_)|((with_reducible refine qThen.id ?_);first|refine qThen.go ?_)|refine Stp.call ?_|((with_reducible refine CallWp.id ?_);first|(refine callA cx (F) ?_;(conv=>whnf)))|((with_reducible refine BodyR.id ?_);first|refine BodyR.ret ?_)|((with_reducible refine ResG.id ?_);first|refine ResG.tmp rfl ?_|refine ResG.nil ?_)
  try rw [show d+1 - 1=d from by omega]
  refine Fin.mk ⟨g,hg,WeakerE.refl _,Subp.tk⟩
set_option maxHeartbeats 4000000 in
theorem rl_rel_no (l:List Tk) (wf:WfN l) (n:Nat) (IH:AllX l n) (i:Nat) (d:Int) (hi:i < l.length) (h0:0≤d) (h1:d≤50) (q rt:Nat) (a:Int) (acc:List ND) (hq:q≠rt) (ha:acc.length≤i) (m0:isT l i tNot=false) (m1:isT l i (tc 91)=false) (n0:isT l i tTrue=false) (n1:isT l i tFalse=false) (n2:isT l i (tc 42)=false) (e:Ex) (j:Nat) (hb:pE l n .expr d i=some (.ok (e,j))) (hk:relK l j=none) {res} (h:(errR 4 j d:Res' Ex)=some res):ExG l q rt acc i d a 71 res:=by
 have wt:=wf.toWfT
 have wl:=wt.len
 have hq':rt≠q:=Ne.symm hq
 have g0:=getD_tk hi
 have ma:(acc.map encN).length=acc.length:=by simp
 cases h
 have I0:=ris_ok q l i d a tNot hi
 rw [m0] at I0
 have I1:=ris_ok q l i d a (tc 91) hi
 rw [m1] at I1
 have T0:=rtake_no q l i d a tTrue hi n0
 have T1:=rtake_no q l i d a tFalse hi n1
 have T2:=rtake_no q l i d a (tc 42) hi n2
 obtain ⟨hj,hij,hl⟩:=pE_facts wt _ _ _ _ _ _ hi hb
 simp only [Lv.base] at hl
 have zl:=gl_len acc e
 have mg:((gl acc e).map encN).length=(gl acc e).length:=by simp
 have C:To 62 [.ptr q 0,ow rt acc] [(q,rs l i d 0 a),(rt,.tok acc.length)] (.ret (ow rt (gl acc e))) [(q,rs l j d 0 a),(rt,.tok (gl acc e).length)]:=IH.expr n (Nat.le_refl _) d i _ hi h0 h1 hb q rt a acc hq ha
 clear hb
 have l6:sgs.length=6:=rfl
 have NO:=fun (m:Nat) (hm:m < 6)=>rtake_no q l j d a (sg m) hj (rel_none hk m hm)
 have F:=rfail_ok q l j d a 4 hj
 refine ExG.of ?_
 clear IH
 unfold rs ow at *
 refine sem_calls' cx (fn:=Tryz.f71) rfl rfl rfl rfl ?_
 repeat' first|refine Ops.tag rfl ?_|(refine OpsT.go ?_;(conv=>arg 7;whnf))|((with_reducible refine Stp.isSum ?_);refine Stp.sum ?_)|((with_reducible refine Stp.isNe ?_);first|refine Stp.neF ?_)|refine Stp.pure rfl ?_|refine PutK.mk' rfl ?_|refine Ops.nil ?_|((with_reducible refine Look.id ?_);refine Look.at ?_;try (conv=>arg 7;whnf))|((with_reducible refine Side.id ?_);first|refine Side.auto ?_)|((with_reducible refine Br.id ?_);first|(with_reducible first|refine br_false rfl ?_))|((with_reducible refine SemWp.id ?_);first|refine sem_seq ?_|refine sem_region rfl ?_|refine sem_cond rfl ?_|refine sem_block ?_|refine sem_skip ?_)|((with_reducible refine qThen.id ?_);first|refine qThen.go ?_)|((with_reducible refine hinBlock.id ?_);first|refine hinBlock.go ?_)|refine Stp.valS ?_|refine Stp.look ?_|refine Stp.call ?_|((with_reducible refine CallWp.id ?_);first|(refine callA cx (I0) ?_;(conv=>whnf))|(refine callA cx (I1) ?_;(conv=>whnf))|(refine callA cx (T0) ?_;(conv=>whnf))|(refine callA cx (T1) ?_;(conv=>whnf))|(refine callA cx (T2) ?_;(conv=>whnf))|(refine callA cx (C) ?_;(conv=>whnf)))
 refine sem_loop cx (ι:=Nat) (fun i=>i≤6) (fun i=>[(0,.sure,.ptr q 0),(1,.sure,.list (.own rt 0) 5 ((gl acc e).map encN)),(5,.sure,ii (((gl acc e).length:Int) - 1)),(6,.sure,.list .full 1 sgs),(7,.sure,ii i)]) (fun _=>[(q,.cells [LTk l,ii j,ii d,ii 0,ii a] 56),(rt,.tok (gl acc e).length)]) (fun i=>6 - i) 0 (Nat.zero_le _) (by repeat' first|exact Sub.nil _|refine Sub.auto ?_ rfl (by first|rfl|assumption|omega|(simp;done)|(rw [List.length_map];rfl)|(rw [List.length_map,wrap64 (by omega)];rfl))) Subp.tk ?_
 intro m hm
 by_cases h6:m < 6
 ·have gs:=sgs_at h6
  have NOm:=NO m h6
  repeat' first|refine Ops.tag rfl ?_|(refine OpsT.go ?_;(conv=>arg 7;whnf))|((with_reducible refine Stp.isSum ?_);refine Stp.sum ?_)|((with_reducible refine Stp.isDec ?_);first|refine Stp.decT ?_)|refine Stp.pure rfl ?_|refine PutK.mk' rfl ?_|refine Ops.nil ?_|((with_reducible refine Side.id ?_);first|refine Side.auto ?_)|((with_reducible refine Br.id ?_);first|(with_reducible first|refine br_true rfl ?_|refine br_false rfl ?_))|((with_reducible refine SemWp.id ?_);first|refine sem_seq ?_|refine sem_region rfl ?_|refine sem_cond rfl ?_|refine sem_block ?_|refine sem_skip ?_)|((with_reducible refine qThen.id ?_);first|refine qThen.go ?_)|((with_reducible refine hinBlock.id ?_);first|refine hinBlock.go ?_)|((with_reducible refine hround.id ?_);first|refine hround.go ?_)|refine Stp.valS ?_|refine Stp.call ?_|((with_reducible refine CallWp.id ?_);first|(refine callA cx (NOm) ?_;(conv=>whnf)))|rw [gs]
  refine Fin.mk ⟨m+1,by omega,by omega,by repeat' first|exact Sub.nil _|refine Sub.auto ?_,Subp.tk⟩
 ·have:m=6:=by omega
  subst this
  repeat' first|refine Ops.tag rfl ?_|(refine OpsT.go ?_;(conv=>arg 7;whnf))|((with_reducible refine Stp.isDec ?_);first|refine Stp.decF ?_)|refine Stp.pure rfl ?_|refine PutK.mk' rfl ?_|refine Ops.nil ?_|((with_reducible refine Side.id ?_);first|refine Side.auto ?_)|((with_reducible refine Br.id ?_);first|(with_reducible first|refine br_false rfl ?_))|((with_reducible refine SemWp.id ?_);first|refine sem_seq ?_|refine sem_region rfl ?_|refine sem_cond rfl ?_|refine sem_exit ?_|refine sem_ret ?_)|((with_reducible refine qThen.id ?_);first|refine qThen.go ?_)|refine Stp.call ?_|((with_reducible refine CallWp.id ?_);first|(refine callA cx (F) ?_;(conv=>whnf)))|((with_reducible refine BodyR.id ?_);first|refine BodyR.ret ?_)|((with_reducible refine ResG.id ?_);first|refine ResG.tmp rfl ?_|refine ResG.nil ?_)
  try rw [show d+1 - 1=d from by omega]
  refine Fin.mk ⟨gl acc e,by omega,WeakerE.refl _,Subp.tk⟩
set_option maxHeartbeats 4000000 in
theorem rl_rel2_er (l:List Tk) (wf:WfN l) (n:Nat) (IH:AllX l n) (i:Nat) (d:Int) (hi:i < l.length) (h0:0≤d) (h1:d≤50) (q rt:Nat) (a:Int) (acc:List ND) (hq:q≠rt) (ha:acc.length≤i) (m0:isT l i tNot=false) (m1:isT l i (tc 91)=false) (n0:isT l i tTrue=false) (n1:isT l i tFalse=false) (n2:isT l i (tc 42)=false) (e:Ex) (j:Nat) (hb:pE l n .expr d i=some (.ok (e,j))) (m:Nat) (m6:m < 6) (bm:isT l j (sg m)=true) (bn:∀ m',m' < m→isT l j (sg m')=false) (c:Int) (j2:Nat) (d':Int) (hb2:pE l n .expr d (j+1)=some (.error (c,j2,d'))) {res} (h:(errR c j2 d':Res' Ex)=some res):ExG l q rt acc i d a 71 res:=by
 have wt:=wf.toWfT
 have wl:=wt.len
 have hq':rt≠q:=Ne.symm hq
 have g0:=getD_tk hi
 have ma:(acc.map encN).length=acc.length:=by simp
 cases h
 have I0:=ris_ok q l i d a tNot hi
 rw [m0] at I0
 have I1:=ris_ok q l i d a (tc 91) hi
 rw [m1] at I1
 have T0:=rtake_no q l i d a tTrue hi n0
 have T1:=rtake_no q l i d a tFalse hi n1
 have T2:=rtake_no q l i d a (tc 42) hi n2
 obtain ⟨hj,hij,hl⟩:=pE_facts wt _ _ _ _ _ _ hi hb
 simp only [Lv.base] at hl
 have zl:=gl_len acc e
 have mg:((gl acc e).map encN).length=(gl acc e).length:=by simp
 have C:To 62 [.ptr q 0,ow rt acc] [(q,rs l i d 0 a),(rt,.tok acc.length)] (.ret (ow rt (gl acc e))) [(q,rs l j d 0 a),(rt,.tok (gl acc e).length)]:=IH.expr n (Nat.le_refl _) d i _ hi h0 h1 hb q rt a acc hq ha
 clear hb
 have l6:sgs.length=6:=rfl
 have hj1:=wt.more j hj (isT_kind bm)
 have NO:=fun (m':Nat) (hm:m' < m)=>rtake_no q l j d a (sg m') hj (bn m' hm)
 have YS:=rtake_yes q l j d a (sg m) wt hj bm
 obtain ⟨hj2,hij2,hc2⟩:=pE_err wt _ _ _ _ hj1 _ _ _ hb2
 have C2:=IH.expr n (Nat.le_refl _) d (j+1) _ hj1 h0 h1 hb2 q rt a (gl acc e) hq (by omega)
 simp only [ExG] at C2
 have TW:=fun (x:List ND) (hx:x.length≤20000)=>two_spec rt x (((gl acc e).length:Int) - 1) (12+(m:Int)) (by omega)
 clear hb2
 refine ExG.of ?_
 clear IH
 unfold rs ow at *
 refine sem_calls' cx (fn:=Tryz.f71) rfl rfl rfl rfl ?_
 repeat' first|refine Ops.tag rfl ?_|(refine OpsT.go ?_;(conv=>arg 7;whnf))|((with_reducible refine Stp.isSum ?_);refine Stp.sum ?_)|((with_reducible refine Stp.isNe ?_);first|refine Stp.neF ?_)|refine Stp.pure rfl ?_|refine PutK.mk' rfl ?_|refine Ops.nil ?_|((with_reducible refine Look.id ?_);refine Look.at ?_;try (conv=>arg 7;whnf))|((with_reducible refine Side.id ?_);first|refine Side.auto ?_)|((with_reducible refine Br.id ?_);first|(with_reducible first|refine br_false rfl ?_))|((with_reducible refine SemWp.id ?_);first|refine sem_seq ?_|refine sem_region rfl ?_|refine sem_cond rfl ?_|refine sem_block ?_|refine sem_skip ?_)|((with_reducible refine qThen.id ?_);first|refine qThen.go ?_)|((with_reducible refine hinBlock.id ?_);first|refine hinBlock.go ?_)|refine Stp.valS ?_|refine Stp.look ?_|refine Stp.call ?_|((with_reducible refine CallWp.id ?_);first|(refine callA cx (I0) ?_;(conv=>whnf))|(refine callA cx (I1) ?_;(conv=>whnf))|(refine callA cx (T0) ?_;(conv=>whnf))|(refine callA cx (T1) ?_;(conv=>whnf))|(refine callA cx (T2) ?_;(conv=>whnf))|(refine callA cx (C) ?_;(conv=>whnf)))
 refine sem_loop cx (ι:=Nat) (fun i=>i≤m) (fun i=>[(0,.sure,.ptr q 0),(1,.sure,.list (.own rt 0) 5 ((gl acc e).map encN)),(5,.sure,ii (((gl acc e).length:Int) - 1)),(6,.sure,.list .full 1 sgs),(7,.sure,ii i)]) (fun _=>[(q,.cells [LTk l,ii j,ii d,ii 0,ii a] 56),(rt,.tok (gl acc e).length)]) (fun i=>6 - i) 0 (Nat.zero_le _) (by repeat' first|exact Sub.nil _|refine Sub.auto ?_ rfl (by first|rfl|assumption|omega|(simp;done)|(rw [List.length_map];rfl)|(rw [List.length_map,wrap64 (by omega)];rfl))) Subp.tk ?_
 intro k hk
 by_cases h6:k < m
 ·have gs:=sgs_at (show k < 6 by omega)
  have NOm:=NO k h6
  repeat' first|refine Ops.tag rfl ?_|(refine OpsT.go ?_;(conv=>arg 7;whnf))|((with_reducible refine Stp.isSum ?_);refine Stp.sum ?_)|((with_reducible refine Stp.isDec ?_);first|refine Stp.decT ?_)|refine Stp.pure rfl ?_|refine PutK.mk' rfl ?_|refine Ops.nil ?_|((with_reducible refine Side.id ?_);first|refine Side.auto ?_)|((with_reducible refine Br.id ?_);first|(with_reducible first|refine br_true rfl ?_|refine br_false rfl ?_))|((with_reducible refine SemWp.id ?_);first|refine sem_seq ?_|refine sem_region rfl ?_|refine sem_cond rfl ?_|refine sem_block ?_|refine sem_skip ?_)|((with_reducible refine qThen.id ?_);first|refine qThen.go ?_)|((with_reducible refine hinBlock.id ?_);first|refine hinBlock.go ?_)|((with_reducible refine hround.id ?_);first|refine hround.go ?_)|refine Stp.valS ?_|refine Stp.call ?_|((with_reducible refine CallWp.id ?_);first|(refine callA cx (NOm) ?_;(conv=>whnf)))|rw [gs]
  refine Fin.mk ⟨k+1,by omega,by omega,by repeat' first|exact Sub.nil _|refine Sub.auto ?_,Subp.tk⟩
 ·have:k=m:=by omega
  subst this
  have gs:=sgs_at m6
  repeat' first|refine Ops.tag rfl ?_|(refine OpsT.go ?_;(conv=>arg 7;whnf))|((with_reducible refine Stp.isSum ?_);refine Stp.sum ?_)|((with_reducible refine Stp.isDec ?_);first|refine Stp.decT ?_)|refine Stp.pure rfl ?_|refine PutK.mk' rfl ?_|refine Ops.nil ?_|((with_reducible refine Side.id ?_);first|refine Side.auto ?_)|((with_reducible refine Br.id ?_);first|(with_reducible first|refine br_true rfl ?_))|((with_reducible refine SemWp.id ?_);first|refine sem_seq ?_|refine sem_region rfl ?_|refine sem_cond rfl ?_|refine sem_block ?_|refine sem_ret ?_|refine sem_skip ?_)|((with_reducible refine qThen.id ?_);first|refine qThen.go ?_|refine qThen.ret ?_)|((with_reducible refine hinBlock.id ?_);first|refine hinBlock.ret ?_)|((with_reducible refine hround.id ?_);first|refine hround.ret ?_)|refine Stp.valS ?_|refine Stp.call ?_|((with_reducible refine CallWp.id ?_);first|(refine callA cx (YS) ?_;(conv=>whnf))|(refine callX cx (C2) (fun g hg=>?_);(conv=>whnf))|(refine callA cx (TW g (by omega)) ?_;(conv=>whnf)))|((with_reducible refine BodyR.id ?_);first|refine BodyR.ret ?_)|((with_reducible refine ResG.id ?_);first|refine ResG.tmp rfl ?_|refine ResG.nil ?_)|rw [gs]
  refine Fin.mk ⟨g ++ [⟨12+(k:Int),0,noS,((gl acc e).length:Int) - 1,(g.length:Int) - 1⟩],by rw [snoc_len];omega,WeakerE.refl _,Subp.tk⟩
set_option maxHeartbeats 4000000 in
theorem rl_rel2_ok (l:List Tk) (wf:WfN l) (n:Nat) (IH:AllX l n) (i:Nat) (d:Int) (hi:i < l.length) (h0:0≤d) (h1:d≤50) (q rt:Nat) (a:Int) (acc:List ND) (hq:q≠rt) (ha:acc.length≤i) (m0:isT l i tNot=false) (m1:isT l i (tc 91)=false) (n0:isT l i tTrue=false) (n1:isT l i tFalse=false) (n2:isT l i (tc 42)=false) (e:Ex) (j:Nat) (hb:pE l n .expr d i=some (.ok (e,j))) (m:Nat) (m6:m < 6) (bm:isT l j (sg m)=true) (bn:∀ m',m' < m→isT l j (sg m')=false) (e2:Ex) (j2:Nat) (hb2:pE l n .expr d (j+1)=some (.ok (e2,j2))) {res} (h:okR (.bin (12+(m:Int)) e e2) j2=some res):ExG l q rt acc i d a 71 res:=by
 have wt:=wf.toWfT
 have wl:=wt.len
 have hq':rt≠q:=Ne.symm hq
 have g0:=getD_tk hi
 have ma:(acc.map encN).length=acc.length:=by simp
 cases h
 have I0:=ris_ok q l i d a tNot hi
 rw [m0] at I0
 have I1:=ris_ok q l i d a (tc 91) hi
 rw [m1] at I1
 have T0:=rtake_no q l i d a tTrue hi n0
 have T1:=rtake_no q l i d a tFalse hi n1
 have T2:=rtake_no q l i d a (tc 42) hi n2
 obtain ⟨hj,hij,hl⟩:=pE_facts wt _ _ _ _ _ _ hi hb
 simp only [Lv.base] at hl
 have zl:=gl_len acc e
 have mg:((gl acc e).map encN).length=(gl acc e).length:=by simp
 have C:To 62 [.ptr q 0,ow rt acc] [(q,rs l i d 0 a),(rt,.tok acc.length)] (.ret (ow rt (gl acc e))) [(q,rs l j d 0 a),(rt,.tok (gl acc e).length)]:=IH.expr n (Nat.le_refl _) d i _ hi h0 h1 hb q rt a acc hq ha
 clear hb
 have l6:sgs.length=6:=rfl
 have hj1:=wt.more j hj (isT_kind bm)
 have NO:=fun (m':Nat) (hm:m' < m)=>rtake_no q l j d a (sg m') hj (bn m' hm)
 have YS:=rtake_yes q l j d a (sg m) wt hj bm
 obtain ⟨hj2,hij2,hl2⟩:=pE_facts wt _ _ _ _ _ _ hj1 hb2
 simp only [Lv.base] at hl2
 have zl2:=gl_len (gl acc e) e2
 have C2:To 62 [.ptr q 0,ow rt (gl acc e)] [(q,rs l (j+1) d 0 a),(rt,.tok (gl acc e).length)] (.ret (ow rt (gl (gl acc e) e2))) [(q,rs l j2 d 0 a),(rt,.tok (gl (gl acc e) e2).length)]:=IH.expr n (Nat.le_refl _) d (j+1) _ hj1 h0 h1 hb2 q rt a (gl acc e) hq (by omega)
 have TW:=two_spec rt (gl (gl acc e) e2) (((gl acc e).length:Int) - 1) (12+(m:Int)) (by omega)
 rw [←gl_bin] at TW
 clear hb2
 refine ExG.of ?_
 clear IH
 unfold rs ow at *
 refine sem_calls' cx (fn:=Tryz.f71) rfl rfl rfl rfl ?_
 repeat' first|refine Ops.tag rfl ?_|(refine OpsT.go ?_;(conv=>arg 7;whnf))|((with_reducible refine Stp.isSum ?_);refine Stp.sum ?_)|((with_reducible refine Stp.isNe ?_);first|refine Stp.neF ?_)|refine Stp.pure rfl ?_|refine PutK.mk' rfl ?_|refine Ops.nil ?_|((with_reducible refine Look.id ?_);refine Look.at ?_;try (conv=>arg 7;whnf))|((with_reducible refine Side.id ?_);first|refine Side.auto ?_)|((with_reducible refine Br.id ?_);first|(with_reducible first|refine br_false rfl ?_))|((with_reducible refine SemWp.id ?_);first|refine sem_seq ?_|refine sem_region rfl ?_|refine sem_cond rfl ?_|refine sem_block ?_|refine sem_skip ?_)|((with_reducible refine qThen.id ?_);first|refine qThen.go ?_)|((with_reducible refine hinBlock.id ?_);first|refine hinBlock.go ?_)|refine Stp.valS ?_|refine Stp.look ?_|refine Stp.call ?_|((with_reducible refine CallWp.id ?_);first|(refine callA cx (I0) ?_;(conv=>whnf))|(refine callA cx (I1) ?_;(conv=>whnf))|(refine callA cx (T0) ?_;(conv=>whnf))|(refine callA cx (T1) ?_;(conv=>whnf))|(refine callA cx (T2) ?_;(conv=>whnf))|(refine callA cx (C) ?_;(conv=>whnf)))
 refine sem_loop cx (ι:=Nat) (fun i=>i≤m) (fun i=>[(0,.sure,.ptr q 0),(1,.sure,.list (.own rt 0) 5 ((gl acc e).map encN)),(5,.sure,ii (((gl acc e).length:Int) - 1)),(6,.sure,.list .full 1 sgs),(7,.sure,ii i)]) (fun _=>[(q,.cells [LTk l,ii j,ii d,ii 0,ii a] 56),(rt,.tok (gl acc e).length)]) (fun i=>6 - i) 0 (Nat.zero_le _) (by repeat' first|exact Sub.nil _|refine Sub.auto ?_ rfl (by first|rfl|assumption|omega|(simp;done)|(rw [List.length_map];rfl)|(rw [List.length_map,wrap64 (by omega)];rfl))) Subp.tk ?_
 intro k hk
 by_cases h6:k < m
 ·have gs:=sgs_at (show k < 6 by omega)
  have NOm:=NO k h6
  repeat' first|refine Ops.tag rfl ?_|(refine OpsT.go ?_;(conv=>arg 7;whnf))|((with_reducible refine Stp.isSum ?_);refine Stp.sum ?_)|((with_reducible refine Stp.isDec ?_);first|refine Stp.decT ?_)|refine Stp.pure rfl ?_|refine PutK.mk' rfl ?_|refine Ops.nil ?_|((with_reducible refine Side.id ?_);first|refine Side.auto ?_)|((with_reducible refine Br.id ?_);first|(with_reducible first|refine br_true rfl ?_|refine br_false rfl ?_))|((with_reducible refine SemWp.id ?_);first|refine sem_seq ?_|refine sem_region rfl ?_|refine sem_cond rfl ?_|refine sem_block ?_|refine sem_skip ?_)|((with_reducible refine qThen.id ?_);first|refine qThen.go ?_)|((with_reducible refine hinBlock.id ?_);first|refine hinBlock.go ?_)|((with_reducible refine hround.id ?_);first|refine hround.go ?_)|refine Stp.valS ?_|refine Stp.call ?_|((with_reducible refine CallWp.id ?_);first|(refine callA cx (NOm) ?_;(conv=>whnf)))|rw [gs]
  refine Fin.mk ⟨k+1,by omega,by omega,by repeat' first|exact Sub.nil _|refine Sub.auto ?_,Subp.tk⟩
 ·have:k=m:=by omega
  subst this
  have gs:=sgs_at m6
  repeat' first|refine Ops.tag rfl ?_|(refine OpsT.go ?_;(conv=>arg 7;whnf))|((with_reducible refine Stp.isSum ?_);refine Stp.sum ?_)|((with_reducible refine Stp.isDec ?_);first|refine Stp.decT ?_)|refine Stp.pure rfl ?_|refine PutK.mk' rfl ?_|refine Ops.nil ?_|((with_reducible refine Side.id ?_);first|refine Side.auto ?_)|((with_reducible refine Br.id ?_);first|(with_reducible first|refine br_true rfl ?_))|((with_reducible refine SemWp.id ?_);first|refine sem_seq ?_|refine sem_region rfl ?_|refine sem_cond rfl ?_|refine sem_block ?_|refine sem_ret ?_|refine sem_skip ?_)|((with_reducible refine qThen.id ?_);first|refine qThen.go ?_|refine qThen.ret ?_)|((with_reducible refine hinBlock.id ?_);first|refine hinBlock.ret ?_)|((with_reducible refine hround.id ?_);first|refine hround.ret ?_)|refine Stp.valS ?_|refine Stp.call ?_|((with_reducible refine CallWp.id ?_);first|(refine callA cx (YS) ?_;(conv=>whnf))|(refine callA cx (C2) ?_;(conv=>whnf))|(refine callA cx (TW) ?_;(conv=>whnf)))|((with_reducible refine BodyR.id ?_);first|refine BodyR.ret ?_)|((with_reducible refine ResG.id ?_);first|refine ResG.tmp rfl ?_|refine ResG.nil ?_)|rw [gs]
  try rw [show d+1 - 1=d from by omega]
  refine Fin.mk ⟨WeakerE.refl _,Subp.tk⟩
theorem rlit_lvl (l:List Tk) (wf:WfN l) (n:Nat) (IH:AllX l n) (i:Nat) (d:Int) (res) (hi:i < l.length) (h0:0≤d) (h1:d≤50) (h:pE l (n+1) .lit d i=some res) (q rt:Nat) (a:Int) (acc:List ND) (hq:q≠rt) (ha:acc.length≤i):ExG l q rt acc i d a 71 res:=by
 simp only [pE] at h
 cases b0:isT l i tNot with
 |true=>
  rw [if_pos b0] at h
  by_cases hd:50≤d
  ·rw [if_pos hd] at h
   exact rl_not_deep l wf n IH i d hi h0 h1 q rt a acc hq ha b0 hd h
  ·rw [if_neg hd] at h
   cases hb:pE l n .lit (d+1) (i+1) with
   |none=>rw [hb] at h;cases h
   |some r=>
    rw [hb] at h
    cases r with
    |error x=>exact rl_not_er l wf n IH i d hi h0 h1 q rt a acc hq ha b0 hd x.1 x.2.1 x.2.2 hb h
    |ok x=>exact rl_not_ok l wf n IH i d hi h0 h1 q rt a acc hq ha b0 hd x.1 x.2 hb h
 |false=>
 rw [if_neg (by rw [b0];exact Bool.false_ne_true)] at h
 cases b1:isT l i (tc 91) with
 |true=>
  rw [if_pos b1] at h
  by_cases hd:50≤d
  ·rw [if_pos hd] at h
   exact rl_sq_deep l wf n IH i d hi h0 h1 q rt a acc hq ha b0 b1 hd h
  ·rw [if_neg hd] at h
   cases hb:pE l n .cond (d+1) (i+1) with
   |none=>rw [hb] at h;cases h
   |some r=>
    rw [hb] at h
    cases r with
    |error x=>exact rl_sq_er l wf n IH i d hi h0 h1 q rt a acc hq ha b0 b1 hd x.1 x.2.1 x.2.2 hb h
    |ok x=>
     obtain ⟨e,j⟩:=x
     have h:(if isT l j (tc 93)=true then okR e (j+1) else errR 4 j (d+1))=some res:=h
     cases b2:isT l j (tc 93) with
     |true=>rw [b2] at h;exact rl_sq_ok l wf n IH i d hi h0 h1 q rt a acc hq ha b0 b1 hd e j hb b2 h
     |false=>rw [b2] at h;exact rl_sq_no l wf n IH i d hi h0 h1 q rt a acc hq ha b0 b1 hd e j hb b2 h
 |false=>
 rw [if_neg (by rw [b1];exact Bool.false_ne_true)] at h
 cases b2:isT l i tTrue with
 |true=>rw [if_pos b2] at h;exact rl_true l wf n IH i d hi h0 h1 q rt a acc hq ha b0 b1 b2 h
 |false=>
 rw [if_neg (by rw [b2];exact Bool.false_ne_true)] at h
 cases b3:isT l i tFalse with
 |true=>rw [if_pos b3] at h;exact rl_false l wf n IH i d hi h0 h1 q rt a acc hq ha b0 b1 b2 b3 h
 |false=>
 rw [if_neg (by rw [b3];exact Bool.false_ne_true)] at h
 cases b4:isT l i (tc 42) with
 |true=>rw [if_pos b4] at h;exact rl_star l wf n IH i d hi h0 h1 q rt a acc hq ha b0 b1 b2 b3 b4 h
 |false=>
 rw [if_neg (by rw [b4];exact Bool.false_ne_true)] at h
 cases hb:pE l n .expr d i with
 |none=>rw [hb] at h;cases h
 |some r=>
  rw [hb] at h
  cases r with
  |error x=>exact rl_rel_er l wf n IH i d hi h0 h1 q rt a acc hq ha b0 b1 b2 b3 b4 x.1 x.2.1 x.2.2 hb h
  |ok x=>
   obtain ⟨e,j⟩:=x
   have h:(match relK l j with|some k=>bindR (pE l n .expr d (j+1)) fun b m=>okR (.bin k e b) m|none=>errR 4 j d)=some res:=h
   cases hk:relK l j with
   |none=>rw [hk] at h;exact rl_rel_no l wf n IH i d hi h0 h1 q rt a acc hq ha b0 b1 b2 b3 b4 e j hb hk h
   |some k=>
    rw [hk] at h
    obtain ⟨m,m6,bm,rfl,bn⟩:=rel_some hk
    have h:(bindR (pE l n .expr d (j+1)) fun b m'=>okR (.bin (12+(m:Int)) e b) m')=some res:=h
    cases hb2:pE l n .expr d (j+1) with
    |none=>rw [hb2] at h;cases h
    |some r2=>
     rw [hb2] at h
     cases r2 with
     |error y=>exact rl_rel2_er l wf n IH i d hi h0 h1 q rt a acc hq ha b0 b1 b2 b3 b4 e j hb m m6 bm bn y.1 y.2.1 y.2.2 hb2 h
     |ok y=>exact rl_rel2_ok l wf n IH i d hi h0 h1 q rt a acc hq ha b0 b1 b2 b3 b4 e j hb m m6 bm bn y.1 y.2 hb2 h
end Go.Proofs.Hk

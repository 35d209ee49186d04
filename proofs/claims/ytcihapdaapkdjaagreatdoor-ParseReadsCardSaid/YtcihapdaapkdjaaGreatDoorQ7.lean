import Derived.Test.YtcihapdaapkdjaaGreatDoorQ5
import Derived.Test.YtcihapdaapkdjaaGreatDoorH41
set_option linter.unusedSimpArgs false
set_option linter.unusedVariables false
set_option maxRecDepth 4000
namespace Go.Proofs.Hk
open Go Go.Proofs
theorem ms_rel2:(mapSet (.string tNe) (ii 13) (mapSet (.string tEq) (ii 12) []))=([(.string tEq,ii 12),(.string tNe,ii 13)]:List (Value × HV)):=by
 simp [mapSet,keyEq_ss,strEq_ne (a:=tNe) (b:=tEq) (by decide)]
theorem ms_rel3:(mapSet (.string (tc 60)) (ii 14) (mapSet (.string tNe) (ii 13) (mapSet (.string tEq) (ii 12) [])))=([(.string tEq,ii 12),(.string tNe,ii 13),(.string (tc 60),ii 14)]:List (Value × HV)):=by
 rw [ms_rel2]
 simp [mapSet,keyEq_ss,strEq_ne (a:=(tc 60)) (b:=tEq) (by decide),strEq_ne (a:=(tc 60)) (b:=tNe) (by decide)]
theorem ms_rel4:(mapSet (.string tLe) (ii 15) (mapSet (.string (tc 60)) (ii 14) (mapSet (.string tNe) (ii 13) (mapSet (.string tEq) (ii 12) []))))=([(.string tEq,ii 12),(.string tNe,ii 13),(.string (tc 60),ii 14),(.string tLe,ii 15)]:List (Value × HV)):=by
 rw [ms_rel3]
 simp [mapSet,keyEq_ss,strEq_ne (a:=tLe) (b:=tEq) (by decide),strEq_ne (a:=tLe) (b:=tNe) (by decide),strEq_ne (a:=tLe) (b:=(tc 60)) (by decide)]
theorem ms_rel5:(mapSet (.string (tc 62)) (ii 16) (mapSet (.string tLe) (ii 15) (mapSet (.string (tc 60)) (ii 14) (mapSet (.string tNe) (ii 13) (mapSet (.string tEq) (ii 12) [])))))=([(.string tEq,ii 12),(.string tNe,ii 13),(.string (tc 60),ii 14),(.string tLe,ii 15),(.string (tc 62),ii 16)]:List (Value × HV)):=by
 rw [ms_rel4]
 simp [mapSet,keyEq_ss,strEq_ne (a:=(tc 62)) (b:=tEq) (by decide),strEq_ne (a:=(tc 62)) (b:=tNe) (by decide),strEq_ne (a:=(tc 62)) (b:=(tc 60)) (by decide),strEq_ne (a:=(tc 62)) (b:=tLe) (by decide)]
theorem ms_rel6:(mapSet (.string tGe) (ii 17) (mapSet (.string (tc 62)) (ii 16) (mapSet (.string tLe) (ii 15) (mapSet (.string (tc 60)) (ii 14) (mapSet (.string tNe) (ii 13) (mapSet (.string tEq) (ii 12) []))))))=([(.string tEq,ii 12),(.string tNe,ii 13),(.string (tc 60),ii 14),(.string tLe,ii 15),(.string (tc 62),ii 16),(.string tGe,ii 17)]:List (Value × HV)):=by
 rw [ms_rel5]
 simp [mapSet,keyEq_ss,strEq_ne (a:=tGe) (b:=tEq) (by decide),strEq_ne (a:=tGe) (b:=tNe) (by decide),strEq_ne (a:=tGe) (b:=(tc 60)) (by decide),strEq_ne (a:=tGe) (b:=tLe) (by decide),strEq_ne (a:=tGe) (b:=(tc 62)) (by decide)]
def es_rel:List (Value × HV):=[(.string tEq,ii 12),(.string tNe,ii 13),(.string (tc 60),ii 14),(.string tLe,ii 15),(.string (tc 62),ii 16),(.string tGe,ii 17)]
theorem rel_op (l:List Tk) (wf:WfN l) (j:Nat) (hj:j < l.length):mapV (.string (tk l j).text) (.v (.int .i64 0)) es_rel=ii ((relK l j).getD 0):=by
 cases h:kOK l j with
 |false=>
  have w:=fun s hs=>wf.word j hj h s hs
  have h0:=w tEq (by simp)
  have h1:=w tNe (by simp)
  have h2:=w (tc 60) (by simp)
  have h3:=w tLe (by simp)
  have h4:=w (tc 62) (by simp)
  have h5:=w tGe (by simp)
  simp [relK,isT_k,es_rel,mapV,keyEq_ss,h,h0,h1,h2,h3,h4,h5,ii]
 |true=>
  cases h0:strEq (tk l j).text tEq with
  |true=>simp [relK,isT_k,es_rel,mapV,keyEq_ss,h,h0]
  |false=>
   cases h1:strEq (tk l j).text tNe with
   |true=>simp [relK,isT_k,es_rel,mapV,keyEq_ss,h,h0,h1]
   |false=>
    cases h2:strEq (tk l j).text (tc 60) with
    |true=>simp [relK,isT_k,es_rel,mapV,keyEq_ss,h,h0,h1,h2]
    |false=>
     cases h3:strEq (tk l j).text tLe with
     |true=>simp [relK,isT_k,es_rel,mapV,keyEq_ss,h,h0,h1,h2,h3]
     |false=>
      cases h4:strEq (tk l j).text (tc 62) with
      |true=>simp [relK,isT_k,es_rel,mapV,keyEq_ss,h,h0,h1,h2,h3,h4]
      |false=>
       cases h5:strEq (tk l j).text tGe with
       |true=>simp [relK,isT_k,es_rel,mapV,keyEq_ss,h,h0,h1,h2,h3,h4,h5]
       |false=>
        simp [relK,isT_k,es_rel,mapV,keyEq_ss,h,h0,h1,h2,h3,h4,h5,ii]
theorem relK_pos {l:List Tk} {j:Nat} {k:Int} (h:relK l j=some k):k≠0:=by
 unfold relK at h;repeat' split at h
 all_goals first|(cases h;decide)|cases h
set_option maxHeartbeats 8000000 in
theorem lit_lvl (l:List Tk) (wf:WfN l) (n:Nat) (IH:AllE l n) (r:Nat) (d:Int) (h0:0≤d) (h1:d≤50) (i:Nat) (hi:i < l.length) (res) (h:pE l (n+1) .lit d i=some res):ExpR l 69 r d i res:=by
 have I1:=is_spec r l i d 0 tNot hi
 have I2:=is_spec r l i d 0 (tc 91) hi
 have neNot:(!strEq tNot ⟨#[]⟩)=true:=by rw [strEq_ne (a:=tNot) (b:=⟨#[]⟩) (by decide)];rfl
 simp only [pE] at h
 refine goalO.of ?_
 unfold rdS
 cases b1:isT l i tNot with
 |true=>
  rw [b1] at I1
  rw [b1] at h
  rw [if_pos rfl] at h
  by_cases hd:50≤d
  ·rw [if_pos hd] at h
   cases h
   have O:=open_deep r l i d 0 tNot hi b1 hd
   clear IH
   unfold rd at *
   refine (sem_calls' cx (fn:=Tryz.f69) rfl rfl rfl rfl ?_)
   repeat' first|refine Ops.tag rfl ?_|(refine OpsT.go ?_;(conv=>arg 7;whnf))|refine Stp.pure rfl ?_|refine PutK.mk' rfl ?_|refine Ops.nil ?_|((with_reducible refine Side.id ?_);first|refine Side.auto ?_)|((with_reducible refine Br.id ?_);first|(with_reducible first|refine br_true rfl ?_))|((with_reducible refine SemWp.id ?_);first|refine sem_seq ?_|refine sem_region rfl ?_|refine sem_cond rfl ?_|refine sem_block ?_)|((with_reducible refine qThen.id ?_);first|refine qThen.go ?_)|refine Stp.call ?_|((with_reducible refine CallWp.id ?_);first|(refine callA cx (I1) ?_;(conv=>whnf))|(refine callB cx (O) ?_;(conv=>whnf)))|((with_reducible refine BodyR.id ?_);first|refine BodyR.pan ?_)
   refine Fin.mk ?_
   refine ⟨WeakerE.refl _,Subp.tk⟩
  ·rw [if_neg hd] at h
   have O:=open_yes r l i d 0 tNot wf.toWfT hi b1 hd h0
   have hi1:=wf.more i hi (isT_kind b1)
   cases hb:pE l n .lit (d+1) (i+1) with
   |none=>rw [hb] at h;cases h
   |some r1=>
   have C:=IH.lit n (Nat.le_refl _) r (d+1) (i+1) r1 hi1 (by omega) (by omega) hb
   rw [hb] at h
   cases r1 with
   |error x=>
    obtain ⟨c,j,d'⟩:=x
    cases h
    have C:To _ [.ptr r 0] [(r,rd l (i+1:Nat) (d+1) 0)] (.pan failV) [(r,rd l j d' c)]:=C
    clear IH hb
    unfold rd at *
    refine (sem_calls' cx (fn:=Tryz.f69) rfl rfl rfl rfl ?_)
    repeat' first|refine Ops.tag rfl ?_|(refine OpsT.go ?_;(conv=>arg 7;whnf))|refine Stp.pure rfl ?_|refine PutK.mk' rfl ?_|refine Ops.nil ?_|((with_reducible refine Side.id ?_);first|refine Side.auto ?_)|((with_reducible refine Br.id ?_);first|(with_reducible first|refine br_true rfl ?_))|((with_reducible refine SemWp.id ?_);first|refine sem_seq ?_|refine sem_region rfl ?_|refine sem_cond rfl ?_|refine sem_block ?_)|((with_reducible refine qThen.id ?_);first|refine qThen.go ?_)|refine Stp.call ?_|((with_reducible refine CallWp.id ?_);first|(refine callA cx (I1) ?_;(conv=>whnf))|(refine callA cx (O) ?_;(conv=>whnf))|(refine callB cx (C) ?_;(conv=>whnf)))|((with_reducible refine BodyR.id ?_);first|refine BodyR.pan ?_)
    refine Fin.mk ?_
    refine ⟨WeakerE.refl _,Subp.tk⟩
   |ok x=>
    obtain ⟨e,j⟩:=x
    have C:ToOwn cx.P _ [.ptr r 0] [(r,rd l (i+1:Nat) (d+1) 0)] 5 ((e.flat 0).map encN) [(r,rd l j (d+1) 0)]:=C
    have F:=pE_facts wf.toWfT n .lit (d+1) (i+1) e j hi1 hb
    cases h
    have wl:=wf.len
    simp only [Lv.base] at F
    have K:=close_non r l j (d+1) 0 (by omega) (by omega)
    rw [show d+1 - 1=d by omega] at K
    have V:=fun rt=>over_spec rt 18 ((e.flat 0).map encN) (by rw [List.length_map];omega) (by rw [List.length_map];exact flat_pos e 0)
    have eu:((Ex.un 18 e).flat 0).map encN=(e.flat 0).map encN ++ [encN' 18 0 noS ((((e.flat 0).map encN).length:Int) - 1) (-1)]:=by simp [Ex.flat,encN]
    have el:(((Ex.un 18 e).flat 0).map encN).length=((e.flat 0).map encN).length+1:=by rw [eu];simp
    clear IH hb
    unfold rd at *
    refine (sem_calls' cx (fn:=Tryz.f69) rfl rfl rfl rfl ?_)
    repeat' first|refine Ops.tag rfl ?_|(refine OpsT.go ?_;(conv=>arg 7;whnf))|refine Stp.pure rfl ?_|refine PutK.mk' rfl ?_|refine Ops.nil ?_|((with_reducible refine Side.id ?_);first|refine Side.auto ?_)|((with_reducible refine Br.id ?_);first|(with_reducible first|refine br_true rfl ?_))|((with_reducible refine SemWp.id ?_);first|refine sem_seq ?_|refine sem_region rfl ?_|refine sem_cond rfl ?_|refine sem_block ?_|refine sem_ret ?_)|((with_reducible refine qThen.id ?_);first|refine qThen.go ?_|refine qThen.ret ?_)|((with_reducible refine hinBlock.id ?_);first|refine hinBlock.ret ?_)|refine Stp.call ?_|((with_reducible refine CallWp.id ?_);first|(refine callA cx (I1) ?_;(conv=>whnf))|(refine callA cx (O) ?_;(conv=>whnf))|(refine callTO cx (C) (by repeat first|exact HTake.nil|(apply HTake.cons;focus (repeat first|exact HPick.hit))) (fun rt hrt=>?_);simp only [keys,List.nil_append,List.cons_append,List.map_cons,List.map_nil,List.mem_cons,List.not_mem_nil,not_or,or_false,not_false_eq_true] at hrt;(conv=>whnf))|(refine callA cx (K) ?_;(conv=>whnf))|(refine callA cx (V _) ?_;(conv=>whnf)))|((with_reducible refine BodyR.id ?_);first|refine BodyR.ret ?_)|((with_reducible refine ResG.id ?_);first|refine ResG.tmp rfl ?_|refine ResG.nil ?_)
    refine Fin.mk ?_
    show (∃ rt,_∧_)∨_
    rw [el,eu]
    refine .inl ⟨_,rfl,Subp.tk⟩
 |false=>
  rw [b1] at h I1
  rw [if_neg (by simp)] at h
  cases b2:isT l i (tc 91) with
  |true=>
   rw [b2] at I2
   rw [b2] at h
   rw [if_pos rfl] at h
   by_cases hd:50≤d
   ·rw [if_pos hd] at h
    cases h
    have O:=open_deep r l i d 0 (tc 91) hi b2 hd
    clear IH
    unfold rd at *
    refine (sem_calls' cx (fn:=Tryz.f69) rfl rfl rfl rfl ?_)
    repeat' first|refine Ops.tag rfl ?_|(refine OpsT.go ?_;(conv=>arg 7;whnf))|refine Stp.pure rfl ?_|refine PutK.mk' rfl ?_|refine Ops.nil ?_|((with_reducible refine Side.id ?_);first|refine Side.auto ?_)|((with_reducible refine Br.id ?_);first|(with_reducible first|refine br_true rfl ?_|refine br_false rfl ?_))|((with_reducible refine SemWp.id ?_);first|refine sem_seq ?_|refine sem_region rfl ?_|refine sem_cond rfl ?_|refine sem_block ?_)|((with_reducible refine qThen.id ?_);first|refine qThen.go ?_)|refine Stp.call ?_|((with_reducible refine CallWp.id ?_);first|(refine callA cx (I1) ?_;(conv=>whnf))|(refine callA cx (I2) ?_;(conv=>whnf))|(refine callB cx (O) ?_;(conv=>whnf)))|((with_reducible refine BodyR.id ?_);first|refine BodyR.pan ?_)
    refine Fin.mk ?_
    refine ⟨WeakerE.refl _,Subp.tk⟩
   ·rw [if_neg hd] at h
    have O:=open_yes r l i d 0 (tc 91) wf.toWfT hi b2 hd h0
    have hi1:=wf.more i hi (isT_kind b2)
    cases hb:pE l n .cond (d+1) (i+1) with
    |none=>rw [hb] at h;cases h
    |some r1=>
    have C:=IH.cond n (Nat.le_refl _) r (d+1) (i+1) r1 hi1 (by omega) (by omega) hb
    rw [hb] at h
    cases r1 with
    |error x=>
     obtain ⟨c,j,d'⟩:=x
     cases h
     have C:To _ [.ptr r 0] [(r,rd l (i+1:Nat) (d+1) 0)] (.pan failV) [(r,rd l j d' c)]:=C
     clear IH hb
     unfold rd at *
     refine (sem_calls' cx (fn:=Tryz.f69) rfl rfl rfl rfl ?_)
     repeat' first|refine Ops.tag rfl ?_|(refine OpsT.go ?_;(conv=>arg 7;whnf))|refine Stp.pure rfl ?_|refine PutK.mk' rfl ?_|refine Ops.nil ?_|((with_reducible refine Side.id ?_);first|refine Side.auto ?_)|((with_reducible refine Br.id ?_);first|(with_reducible first|refine br_true rfl ?_|refine br_false rfl ?_))|((with_reducible refine SemWp.id ?_);first|refine sem_seq ?_|refine sem_region rfl ?_|refine sem_cond rfl ?_|refine sem_block ?_)|((with_reducible refine qThen.id ?_);first|refine qThen.go ?_)|refine Stp.call ?_|((with_reducible refine CallWp.id ?_);first|(refine callA cx (I1) ?_;(conv=>whnf))|(refine callA cx (I2) ?_;(conv=>whnf))|(refine callA cx (O) ?_;(conv=>whnf))|(refine callB cx (C) ?_;(conv=>whnf)))|((with_reducible refine BodyR.id ?_);first|refine BodyR.pan ?_)
     refine Fin.mk ?_
     refine ⟨WeakerE.refl _,Subp.tk⟩
    |ok x=>
     obtain ⟨e,j⟩:=x
     have C:ToOwn cx.P _ [.ptr r 0] [(r,rd l (i+1:Nat) (d+1) 0)] 5 ((e.flat 0).map encN) [(r,rd l j (d+1) 0)]:=C
     have F:=pE_facts wf.toWfT n .cond (d+1) (i+1) e j hi1 hb
     have h:(if isT l j (tc 93)=true then okR e (j+1) else errR 4 j (d+1))=some res:=h
     cases b9:isT l j (tc 93) with
     |false=>
      rw [b9] at h
      cases h
      have K:=close_no r l j (d+1) 0 (tc 93) ne1 F.1 b9
      clear IH hb
      unfold rd at *
      refine (sem_calls' cx (fn:=Tryz.f69) rfl rfl rfl rfl ?_)
      repeat' first|refine Ops.tag rfl ?_|(refine OpsT.go ?_;(conv=>arg 7;whnf))|refine Stp.pure rfl ?_|refine PutK.mk' rfl ?_|refine Ops.nil ?_|((with_reducible refine Side.id ?_);first|refine Side.auto ?_)|((with_reducible refine Br.id ?_);first|(with_reducible first|refine br_true rfl ?_|refine br_false rfl ?_))|((with_reducible refine SemWp.id ?_);first|refine sem_seq ?_|refine sem_region rfl ?_|refine sem_cond rfl ?_|refine sem_block ?_)|((with_reducible refine qThen.id ?_);first|refine qThen.go ?_)|refine Stp.call ?_|((with_reducible refine CallWp.id ?_);first|(refine callA cx (I1) ?_;(conv=>whnf))|(refine callA cx (I2) ?_;(conv=>whnf))|(refine callA cx (O) ?_;(conv=>whnf))|(refine callTO cx (C) (by repeat first|exact HTake.nil|(apply HTake.cons;focus (repeat first|exact HPick.hit))) (fun rt hrt=>?_);simp only [keys,List.nil_append,List.cons_append,List.map_cons,List.map_nil,List.mem_cons,List.not_mem_nil,not_or,or_false,not_false_eq_true] at hrt;(conv=>whnf))|(refine callB cx (K) ?_;(conv=>whnf)))|((with_reducible refine BodyR.id ?_);first|refine BodyR.pan ?_)
      refine Fin.mk ?_
      refine ⟨WeakerE.refl _,Subp.tk⟩
     |true=>
      rw [b9] at h
      cases h
      have K:=close_yes r l j (d+1) 0 (tc 93) wf.toWfT ne1 F.1 b9 (by omega) (by omega)
      rw [show d+1 - 1=d by omega] at K
      clear IH hb
      unfold rd at *
      refine (sem_calls' cx (fn:=Tryz.f69) rfl rfl rfl rfl ?_)
      repeat' first|refine Ops.tag rfl ?_|(refine OpsT.go ?_;(conv=>arg 7;whnf))|refine Stp.pure rfl ?_|refine PutK.mk' rfl ?_|refine Ops.nil ?_|((with_reducible refine Side.id ?_);first|refine Side.auto ?_)|((with_reducible refine Br.id ?_);first|(with_reducible first|refine br_true rfl ?_|refine br_false rfl ?_))|((with_reducible refine SemWp.id ?_);first|refine sem_seq ?_|refine sem_region rfl ?_|refine sem_cond rfl ?_|refine sem_block ?_|refine sem_ret ?_)|((with_reducible refine qThen.id ?_);first|refine qThen.go ?_|refine qThen.ret ?_)|((with_reducible refine hinBlock.id ?_);first|refine hinBlock.ret ?_)|refine Stp.call ?_|((with_reducible refine CallWp.id ?_);first|(refine callA cx (I1) ?_;(conv=>whnf))|(refine callA cx (I2) ?_;(conv=>whnf))|(refine callA cx (O) ?_;(conv=>whnf))|(refine callTO cx (C) (by repeat first|exact HTake.nil|(apply HTake.cons;focus (repeat first|exact HPick.hit))) (fun rt hrt=>?_);simp only [keys,List.nil_append,List.cons_append,List.map_cons,List.map_nil,List.mem_cons,List.not_mem_nil,not_or,or_false,not_false_eq_true] at hrt;(conv=>whnf))|(refine callA cx (K) ?_;(conv=>whnf)))|((with_reducible refine BodyR.id ?_);first|refine BodyR.ret ?_)|((with_reducible refine ResG.id ?_);first|refine ResG.tmp rfl ?_|refine ResG.nil ?_)
      refine Fin.mk (.inl ⟨_,rfl,Subp.take (t:=?_) ?_⟩)
      rotate_left
      (repeat first|exact HTake.nil|(apply HTake.cons;focus (repeat first|exact HPick.hit|apply HPick.miss)))
  |false=>
   rw [b2] at h I2
   rw [if_neg (by simp)] at h
   cases c0:isT l i tTrue with
   |true=>
    rw [c0] at h
    rw [if_pos rfl] at h
    cases h
    have M0:=may_yes r l i d 0 tTrue wf.toWfT hi c0
    have L:=leaf_spec 9 0 noS 0 0
    clear IH
    unfold rd at *
    refine (sem_calls' cx (fn:=Tryz.f69) rfl rfl rfl rfl ?_)
    repeat' first|refine Ops.tag rfl ?_|(refine OpsT.go ?_;(conv=>arg 7;whnf))|refine Stp.pure rfl ?_|refine PutK.mk' rfl ?_|refine Ops.nil ?_|((with_reducible refine Side.id ?_);first|refine Side.auto ?_)|((with_reducible refine Br.id ?_);first|(with_reducible first|refine br_true rfl ?_|refine br_false rfl ?_))|((with_reducible refine SemWp.id ?_);first|refine sem_seq ?_|refine sem_region rfl ?_|refine sem_cond rfl ?_|refine sem_block ?_|refine sem_ret ?_)|((with_reducible refine qThen.id ?_);first|refine qThen.go ?_|refine qThen.ret ?_)|((with_reducible refine hinBlock.id ?_);first|refine hinBlock.ret ?_)|refine Stp.call ?_|((with_reducible refine CallWp.id ?_);first|(refine callA cx (I1) ?_;(conv=>whnf))|(refine callA cx (I2) ?_;(conv=>whnf))|(refine callA cx (M0) ?_;(conv=>whnf))|(refine callT cx (L) (by repeat first|exact HTake.nil) ?_;(conv=>whnf)))|((with_reducible refine BodyR.id ?_);first|refine BodyR.ret ?_)|((with_reducible refine ResG.id ?_);first|refine ResG.tmp rfl ?_|refine ResG.nil ?_)
    refine Fin.mk (.inr ⟨rfl,Subp.take (t:=?_) ?_⟩)
    rotate_left
    (repeat first|exact HTake.nil|(apply HTake.cons;focus (repeat first|exact HPick.hit|apply HPick.miss)))
   |false=>
    rw [c0] at h
    rw [if_neg (by simp)] at h
    have M0:=may_no r l i d 0 tTrue hi c0
    cases c1:isT l i tFalse with
    |true=>
     rw [c1] at h
     rw [if_pos rfl] at h
     cases h
     have M1:=may_yes r l i d 0 tFalse wf.toWfT hi c1
     have L:=leaf_spec 10 0 noS 0 0
     clear IH
     unfold rd at *
     refine (sem_calls' cx (fn:=Tryz.f69) rfl rfl rfl rfl ?_)
     repeat' first|refine Ops.tag rfl ?_|(refine OpsT.go ?_;(conv=>arg 7;whnf))|refine Stp.pure rfl ?_|refine PutK.mk' rfl ?_|refine Ops.nil ?_|((with_reducible refine Side.id ?_);first|refine Side.auto ?_)|((with_reducible refine Br.id ?_);first|(with_reducible first|refine br_true rfl ?_|refine br_false rfl ?_))|((with_reducible refine SemWp.id ?_);first|refine sem_seq ?_|refine sem_region rfl ?_|refine sem_cond rfl ?_|refine sem_block ?_|refine sem_ret ?_)|((with_reducible refine qThen.id ?_);first|refine qThen.go ?_|refine qThen.ret ?_)|((with_reducible refine hinBlock.id ?_);first|refine hinBlock.ret ?_)|refine Stp.call ?_|((with_reducible refine CallWp.id ?_);first|(refine callA cx (I1) ?_;(conv=>whnf))|(refine callA cx (I2) ?_;(conv=>whnf))|(refine callA cx (M0) ?_;(conv=>whnf))|(refine callA cx (M1) ?_;(conv=>whnf))|(refine callT cx (L) (by repeat first|exact HTake.nil) ?_;(conv=>whnf)))|((with_reducible refine BodyR.id ?_);first|refine BodyR.ret ?_)|((with_reducible refine ResG.id ?_);first|refine ResG.tmp rfl ?_|refine ResG.nil ?_)
     refine Fin.mk (.inr ⟨rfl,Subp.take (t:=?_) ?_⟩)
     rotate_left
     (repeat first|exact HTake.nil|(apply HTake.cons;focus (repeat first|exact HPick.hit|apply HPick.miss)))
    |false=>
     rw [c1] at h
     rw [if_neg (by simp)] at h
     have M1:=may_no r l i d 0 tFalse hi c1
     cases c2:isT l i (tc 42) with
     |true=>
      rw [c2] at h
      rw [if_pos rfl] at h
      cases h
      have M2:=may_yes r l i d 0 (tc 42) wf.toWfT hi c2
      have L:=leaf_spec 11 0 noS 0 0
      clear IH
      unfold rd at *
      refine (sem_calls' cx (fn:=Tryz.f69) rfl rfl rfl rfl ?_)
      repeat' first|refine Ops.tag rfl ?_|(refine OpsT.go ?_;(conv=>arg 7;whnf))|refine Stp.pure rfl ?_|refine PutK.mk' rfl ?_|refine Ops.nil ?_|((with_reducible refine Side.id ?_);first|refine Side.auto ?_)|((with_reducible refine Br.id ?_);first|(with_reducible first|refine br_true rfl ?_|refine br_false rfl ?_))|((with_reducible refine SemWp.id ?_);first|refine sem_seq ?_|refine sem_region rfl ?_|refine sem_cond rfl ?_|refine sem_block ?_|refine sem_ret ?_)|((with_reducible refine qThen.id ?_);first|refine qThen.go ?_|refine qThen.ret ?_)|((with_reducible refine hinBlock.id ?_);first|refine hinBlock.ret ?_)|refine Stp.call ?_|((with_reducible refine CallWp.id ?_);first|(refine callA cx (I1) ?_;(conv=>whnf))|(refine callA cx (I2) ?_;(conv=>whnf))|(refine callA cx (M0) ?_;(conv=>whnf))|(refine callA cx (M1) ?_;(conv=>whnf))|(refine callA cx (M2) ?_;(conv=>whnf))|(refine callT cx (L) (by repeat first|exact HTake.nil) ?_;(conv=>whnf)))|((with_reducible refine BodyR.id ?_);first|refine BodyR.ret ?_)|((with_reducible refine ResG.id ?_);first|refine ResG.tmp rfl ?_|refine ResG.nil ?_)
      refine Fin.mk (.inr ⟨rfl,Subp.take (t:=?_) ?_⟩)
      rotate_left
      (repeat first|exact HTake.nil|(apply HTake.cons;focus (repeat first|exact HPick.hit|apply HPick.miss)))
     |false=>
      rw [c2] at h
      rw [if_neg (by simp)] at h
      have M2:=may_no r l i d 0 (tc 42) hi c2
      cases hb:pE l n .expr d i with
      |none=>rw [hb] at h;cases h
      |some r1=>
      have C:=IH.expr n (Nat.le_refl _) r d i r1 hi h0 h1 hb
      rw [hb] at h
      cases r1 with
      |error x=>
       obtain ⟨c,j,d'⟩:=x
       cases h
       have C:To _ [.ptr r 0] [(r,rd l i d 0)] (.pan failV) [(r,rd l j d' c)]:=C
       clear IH hb
       unfold rd at *
       refine (sem_calls' cx (fn:=Tryz.f69) rfl rfl rfl rfl ?_)
       repeat' first|refine Ops.tag rfl ?_|(refine OpsT.go ?_;(conv=>arg 7;whnf))|refine Stp.pure rfl ?_|refine PutK.mk' rfl ?_|refine Ops.nil ?_|((with_reducible refine Side.id ?_);first|refine Side.auto ?_)|((with_reducible refine Br.id ?_);first|(with_reducible first|refine br_false rfl ?_))|((with_reducible refine SemWp.id ?_);first|refine sem_seq ?_|refine sem_region rfl ?_|refine sem_cond rfl ?_|refine sem_block ?_|refine sem_skip ?_)|((with_reducible refine qThen.id ?_);first|refine qThen.go ?_)|((with_reducible refine hinBlock.id ?_);first|refine hinBlock.go ?_)|refine Stp.call ?_|((with_reducible refine CallWp.id ?_);first|(refine callA cx (I1) ?_;(conv=>whnf))|(refine callA cx (I2) ?_;(conv=>whnf))|(refine callA cx (M0) ?_;(conv=>whnf))|(refine callA cx (M1) ?_;(conv=>whnf))|(refine callA cx (M2) ?_;(conv=>whnf))|(refine callB cx (C) ?_;(conv=>whnf)))|((with_reducible refine BodyR.id ?_);first|refine BodyR.pan ?_)
       refine Fin.mk ?_
       refine ⟨WeakerE.refl _,Subp.tk⟩
      |ok x=>
       obtain ⟨e,j⟩:=x
       have C:ToOwn cx.P _ [.ptr r 0] [(r,rd l i d 0)] 5 ((e.flat 0).map encN) [(r,rd l j d 0)]:=C
       have F:=pE_facts wf.toWfT n .expr d i e j hi hb
       have h:(match relK l j with|some k=>bindR (pE l n .expr d (j+1)) fun b m=>okR (.bin k e b) m|none=>errR 4 j d)=some res:=h
       have N:=now_spec r l j d 0 F.1
       have ro:=rel_op l wf j F.1
       have hk2:hkeysB cx 9 (mapSet (.string ⟨#[33,61]⟩) (.v (.int .i64 13)) (mapSet (.string ⟨#[61,61]⟩) (.v (.int .i64 12)) []))=true:=by show hkeysB cx 9 (mapSet (.string tNe) (ii 13) (mapSet (.string tEq) (ii 12) []))=true;rw [ms_rel2];rfl
       have hk3:hkeysB cx 9 (mapSet (.string ⟨#[60]⟩) (.v (.int .i64 14)) (mapSet (.string ⟨#[33,61]⟩) (.v (.int .i64 13)) (mapSet (.string ⟨#[61,61]⟩) (.v (.int .i64 12)) [])))=true:=by show hkeysB cx 9 (mapSet (.string (tc 60)) (ii 14) (mapSet (.string tNe) (ii 13) (mapSet (.string tEq) (ii 12) [])))=true;rw [ms_rel3];rfl
       have hk4:hkeysB cx 9 (mapSet (.string ⟨#[60,61]⟩) (.v (.int .i64 15)) (mapSet (.string ⟨#[60]⟩) (.v (.int .i64 14)) (mapSet (.string ⟨#[33,61]⟩) (.v (.int .i64 13)) (mapSet (.string ⟨#[61,61]⟩) (.v (.int .i64 12)) []))))=true:=by show hkeysB cx 9 (mapSet (.string tLe) (ii 15) (mapSet (.string (tc 60)) (ii 14) (mapSet (.string tNe) (ii 13) (mapSet (.string tEq) (ii 12) []))))=true;rw [ms_rel4];rfl
       have hk5:hkeysB cx 9 (mapSet (.string ⟨#[62]⟩) (.v (.int .i64 16)) (mapSet (.string ⟨#[60,61]⟩) (.v (.int .i64 15)) (mapSet (.string ⟨#[60]⟩) (.v (.int .i64 14)) (mapSet (.string ⟨#[33,61]⟩) (.v (.int .i64 13)) (mapSet (.string ⟨#[61,61]⟩) (.v (.int .i64 12)) [])))))=true:=by show hkeysB cx 9 (mapSet (.string (tc 62)) (ii 16) (mapSet (.string tLe) (ii 15) (mapSet (.string (tc 60)) (ii 14) (mapSet (.string tNe) (ii 13) (mapSet (.string tEq) (ii 12) [])))))=true;rw [ms_rel5];rfl
       have hk6:hkeysB cx 9 (mapSet (.string ⟨#[62,61]⟩) (.v (.int .i64 17)) (mapSet (.string ⟨#[62]⟩) (.v (.int .i64 16)) (mapSet (.string ⟨#[60,61]⟩) (.v (.int .i64 15)) (mapSet (.string ⟨#[60]⟩) (.v (.int .i64 14)) (mapSet (.string ⟨#[33,61]⟩) (.v (.int .i64 13)) (mapSet (.string ⟨#[61,61]⟩) (.v (.int .i64 12)) []))))))=true:=by show hkeysB cx 9 (mapSet (.string tGe) (ii 17) (mapSet (.string (tc 62)) (ii 16) (mapSet (.string tLe) (ii 15) (mapSet (.string (tc 60)) (ii 14) (mapSet (.string tNe) (ii 13) (mapSet (.string tEq) (ii 12) []))))))=true;rw [ms_rel6];rfl
       have he:es_rel=(mapSet (.string ⟨#[62,61]⟩) (.v (.int .i64 17)) (mapSet (.string ⟨#[62]⟩) (.v (.int .i64 16)) (mapSet (.string ⟨#[60,61]⟩) (.v (.int .i64 15)) (mapSet (.string ⟨#[60]⟩) (.v (.int .i64 14)) (mapSet (.string ⟨#[33,61]⟩) (.v (.int .i64 13)) (mapSet (.string ⟨#[61,61]⟩) (.v (.int .i64 12)) [])))))):=ms_rel6.symm
       rw [he] at ro
       clear he
       have wl:=wf.len
       simp only [Lv.base] at F
       cases hk:relK l j with
       |none=>
        rw [hk] at h ro
        cases h
        have ro:hmapRes false (.string (tk l j).text) (.v (.int .i64 0)) (mapSet (.string ⟨#[62,61]⟩) (.v (.int .i64 17)) (mapSet (.string ⟨#[62]⟩) (.v (.int .i64 16)) (mapSet (.string ⟨#[60,61]⟩) (.v (.int .i64 15)) (mapSet (.string ⟨#[60]⟩) (.v (.int .i64 14)) (mapSet (.string ⟨#[33,61]⟩) (.v (.int .i64 13)) (mapSet (.string ⟨#[61,61]⟩) (.v (.int .i64 12)) []))))))=ii 0:=ro
        have X:=fail_spec r l j d 0 4
        clear IH hb
        unfold rd at *
        generalize (tk l j).text=t at *
        generalize (tk l j).kind=kd at *
        generalize ((tk l j).pos:Int)=ps at *
        refine (sem_calls' cx (fn:=Tryz.f69) rfl rfl rfl rfl ?_)
        repeat' first|rw [ro]|refine Ops.tag rfl ?_|(refine OpsT.go ?_;(conv=>arg 7;whnf))|((with_reducible refine Stp.isEq ?_);first|refine Stp.eqT ?_)|refine Stp.pure rfl ?_|((with_reducible refine PutK.isSet ?_);refine PutK.st ?_)|refine PutK.mk' rfl ?_|refine Ops.nil ?_|((with_reducible refine Look.id ?_);refine Look.auto ?_ (by repeat first|exact HGet.hit|apply HGet.miss (by first|omega));try (conv=>arg 7;whnf))|((with_reducible refine Side.id ?_);first|refine Side.auto ?_)|((with_reducible refine Br.id ?_);first|(with_reducible first|refine br_true rfl ?_|refine br_false rfl ?_))|((with_reducible refine SemWp.id ?_);first|refine sem_seq ?_|refine sem_region rfl ?_|refine sem_cond rfl ?_|refine sem_block ?_|refine sem_skip ?_)|((with_reducible refine qThen.id ?_);first|refine qThen.go ?_)|((with_reducible refine hinBlock.id ?_);first|refine hinBlock.go ?_)|refine Stp.look ?_|refine Stp.call ?_|refine Stp.eff ?_|((with_reducible refine CallWp.id ?_);first|(refine callA cx (I1) ?_;(conv=>whnf))|(refine callA cx (I2) ?_;(conv=>whnf))|(refine callA cx (M0) ?_;(conv=>whnf))|(refine callA cx (M1) ?_;(conv=>whnf))|(refine callA cx (M2) ?_;(conv=>whnf))|(refine callTO cx (C) (by repeat first|exact HTake.nil|(apply HTake.cons;focus (repeat first|exact HPick.hit))) (fun rt hrt=>?_);simp only [keys,List.nil_append,List.cons_append,List.map_cons,List.map_nil,List.mem_cons,List.not_mem_nil,not_or,or_false,not_false_eq_true] at hrt;(conv=>whnf))|(refine callA cx (N) ?_;(conv=>whnf))|(refine callB cx (X) ?_;(conv=>whnf)))|(refine newN (fun r hr=>?_);simp only [keys,List.nil_append,List.cons_append,List.map_cons,List.map_nil,List.mem_cons,List.not_mem_nil,not_or,or_false,not_false_eq_true] at hr)|((with_reducible refine BodyR.id ?_);first|refine BodyR.pan ?_)|(rw [hk6];(conv=>arg 7;whnf))|(rw [hk5];(conv=>arg 7;whnf))|(rw [hk4];(conv=>arg 7;whnf))|(rw [hk3];(conv=>arg 7;whnf))|(rw [hk2];(conv=>arg 7;whnf))
        refine Fin.mk ?_
        refine ⟨WeakerE.refl _,Subp.tk⟩
       |some k=>
        rw [hk] at h ro
        have ro:hmapRes false (.string (tk l j).text) (.v (.int .i64 0)) (mapSet (.string ⟨#[62,61]⟩) (.v (.int .i64 17)) (mapSet (.string ⟨#[62]⟩) (.v (.int .i64 16)) (mapSet (.string ⟨#[60,61]⟩) (.v (.int .i64 15)) (mapSet (.string ⟨#[60]⟩) (.v (.int .i64 14)) (mapSet (.string ⟨#[33,61]⟩) (.v (.int .i64 13)) (mapSet (.string ⟨#[61,61]⟩) (.v (.int .i64 12)) []))))))=ii k:=ro
        have kp:¬ k=0:=relK_pos hk
        have hj1:=wf.more j F.1 (relK_isT hk)
        have X:=next_spec r l j d 0 hj1 wl
        have h:(bindR (pE l n .expr d (j+1)) fun b m=>okR (.bin k e b) m)=some res:=h
        cases hb2:pE l n .expr d (j+1) with
        |none=>rw [hb2] at h;cases h
        |some r2=>
        have C2:=IH.expr n (Nat.le_refl _) r d (j+1) r2 hj1 h0 h1 hb2
        rw [hb2] at h
        cases r2 with
        |error x=>
         obtain ⟨c,m,d'⟩:=x
         cases h
         have C2:To _ [.ptr r 0] [(r,rd l (j+1:Nat) d 0)] (.pan failV) [(r,rd l m d' c)]:=C2
         clear IH hb hb2
         unfold rd at *
         generalize (tk l j).text=t at *
         generalize (tk l j).kind=kd at *
         generalize ((tk l j).pos:Int)=ps at *
         refine (sem_calls' cx (fn:=Tryz.f69) rfl rfl rfl rfl ?_)
         repeat' first|rw [ro]|refine Ops.tag rfl ?_|(refine OpsT.go ?_;(conv=>arg 7;whnf))|((with_reducible refine Stp.isEq ?_);first|refine Stp.eqF ?_)|refine Stp.pure rfl ?_|((with_reducible refine PutK.isSet ?_);refine PutK.st ?_)|refine PutK.mk' rfl ?_|refine Ops.nil ?_|((with_reducible refine Look.id ?_);refine Look.auto ?_ (by repeat first|exact HGet.hit|apply HGet.miss (by first|omega));try (conv=>arg 7;whnf))|((with_reducible refine Side.id ?_);first|refine Side.auto ?_)|((with_reducible refine Br.id ?_);first|(with_reducible first|refine br_false rfl ?_))|((with_reducible refine SemWp.id ?_);first|refine sem_seq ?_|refine sem_region rfl ?_|refine sem_cond rfl ?_|refine sem_block ?_|refine sem_skip ?_)|((with_reducible refine qThen.id ?_);first|refine qThen.go ?_)|((with_reducible refine hinBlock.id ?_);first|refine hinBlock.go ?_)|refine Stp.look ?_|refine Stp.call ?_|refine Stp.eff ?_|((with_reducible refine CallWp.id ?_);first|(refine callA cx (I1) ?_;(conv=>whnf))|(refine callA cx (I2) ?_;(conv=>whnf))|(refine callA cx (M0) ?_;(conv=>whnf))|(refine callA cx (M1) ?_;(conv=>whnf))|(refine callA cx (M2) ?_;(conv=>whnf))|(refine callTO cx (C) (by repeat first|exact HTake.nil|(apply HTake.cons;focus (repeat first|exact HPick.hit|apply HPick.miss))) (fun rt hrt=>?_);simp only [keys,List.nil_append,List.cons_append,List.map_cons,List.map_nil,List.mem_cons,List.not_mem_nil,not_or,or_false,not_false_eq_true] at hrt;(conv=>whnf))|(refine callA cx (N) ?_;(conv=>whnf))|(refine callA cx (X) ?_;(conv=>whnf))|(refine callB cx (C2) ?_;(conv=>whnf)))|(refine newN (fun r hr=>?_);simp only [keys,List.nil_append,List.cons_append,List.map_cons,List.map_nil,List.mem_cons,List.not_mem_nil,not_or,or_false,not_false_eq_true] at hr)|((with_reducible refine BodyR.id ?_);first|refine BodyR.pan ?_)|(rw [hk6];(conv=>arg 7;whnf))|(rw [hk5];(conv=>arg 7;whnf))|(rw [hk4];(conv=>arg 7;whnf))|(rw [hk3];(conv=>arg 7;whnf))|(rw [hk2];(conv=>arg 7;whnf))
         refine Fin.mk ?_
         refine ⟨WeakerE.refl _,Subp.tk⟩
        |ok x=>
         obtain ⟨e2,m⟩:=x
         cases h
         have F2:=pE_facts wf.toWfT n .expr d (j+1) e2 m hj1 hb2
         simp only [Lv.base] at F2
         have C2:ToOwn cx.P _ [.ptr r 0] [(r,rd l (j+1:Nat) d 0)] 5 ((e2.flat 0).map encN) [(r,rd l m d 0)]:=C2
         have B:=both_spec k (e.flat 0) (e2.flat 0) (fun h=>by have:=flat_pos e 0;rw [h] at this;simp at this) (by omega) (by omega) (fun n hn=>by have:=flat_lt e2 n hn;omega)
         rw [←both_flat] at B
         have B:=fun p q=>HCalls.args (ys:=[ii k,.list (.own p 0) 5 ((e.flat 0).map encN),.list (.own q 0) 5 ((e2.flat 0).map encN)]) B (.cons (.refl _) (.cons (Weaker.tok _ _ _) (.cons (Weaker.tok _ _ _) .nil)))
         clear IH hb hb2
         unfold rd at *
         generalize (tk l j).text=t at *
         generalize (tk l j).kind=kd at *
         generalize ((tk l j).pos:Int)=ps at *
         refine (sem_calls' cx (fn:=Tryz.f69) rfl rfl rfl rfl ?_)
         repeat' first|rw [ro]|refine Ops.tag rfl ?_|(refine OpsT.go ?_;(conv=>arg 7;whnf))|((with_reducible refine Stp.isEq ?_);first|refine Stp.eqF ?_)|refine Stp.pure rfl ?_|((with_reducible refine PutK.isSet ?_);refine PutK.st ?_)|refine PutK.mk' rfl ?_|refine Ops.nil ?_|((with_reducible refine Look.id ?_);refine Look.auto ?_ (by repeat first|exact HGet.hit|apply HGet.miss (by first|omega));try (conv=>arg 7;whnf))|((with_reducible refine Side.id ?_);first|refine Side.auto ?_)|((with_reducible refine Br.id ?_);first|(with_reducible first|refine br_false rfl ?_))|((with_reducible refine SemWp.id ?_);first|refine sem_seq ?_|refine sem_region rfl ?_|refine sem_cond rfl ?_|refine sem_block ?_|refine sem_ret ?_|refine sem_skip ?_)|((with_reducible refine qThen.id ?_);first|refine qThen.go ?_)|((with_reducible refine hinBlock.id ?_);first|refine hinBlock.go ?_)|refine Stp.look ?_|refine Stp.call ?_|refine Stp.eff ?_|((with_reducible refine CallWp.id ?_);first|(refine callA cx (I1) ?_;(conv=>whnf))|(refine callA cx (I2) ?_;(conv=>whnf))|(refine callA cx (M0) ?_;(conv=>whnf))|(refine callA cx (M1) ?_;(conv=>whnf))|(refine callA cx (M2) ?_;(conv=>whnf))|(refine callTO cx (C) (by repeat first|exact HTake.nil|(apply HTake.cons;focus (repeat first|exact HPick.hit|apply HPick.miss))) (fun rt hrt=>?_);simp only [keys,List.nil_append,List.cons_append,List.map_cons,List.map_nil,List.mem_cons,List.not_mem_nil,not_or,or_false,not_false_eq_true] at hrt;(conv=>whnf))|(refine callA cx (N) ?_;(conv=>whnf))|(refine callA cx (X) ?_;(conv=>whnf))|(refine callTO cx (C2) (by repeat first|exact HTake.nil|(apply HTake.cons;focus (repeat first|exact HPick.hit))) (fun rt hrt=>?_);simp only [keys,List.nil_append,List.cons_append,List.map_cons,List.map_nil,List.mem_cons,List.not_mem_nil,not_or,or_false,not_false_eq_true] at hrt;(conv=>whnf))|(refine callTO cx (B _ _) (by repeat first|exact HTake.nil) (fun rt hrt=>?_);simp only [keys,List.nil_append,List.cons_append,List.map_cons,List.map_nil,List.mem_cons,List.not_mem_nil,not_or,or_false,not_false_eq_true] at hrt;(conv=>whnf)))|(refine newN (fun r hr=>?_);simp only [keys,List.nil_append,List.cons_append,List.map_cons,List.map_nil,List.mem_cons,List.not_mem_nil,not_or,or_false,not_false_eq_true] at hr)|((with_reducible refine BodyR.id ?_);first|refine BodyR.ret ?_)|((with_reducible refine ResG.id ?_);first|refine ResG.tmp rfl ?_|refine ResG.nil ?_)|(rw [hk6];(conv=>arg 7;whnf))|(rw [hk5];(conv=>arg 7;whnf))|(rw [hk4];(conv=>arg 7;whnf))|(rw [hk3];(conv=>arg 7;whnf))|(rw [hk2];(conv=>arg 7;whnf))
         refine Fin.mk (.inl ⟨_,rfl,Subp.take (t:=?_) ?_⟩)
         rotate_left
         (repeat first|exact HTake.nil|(apply HTake.cons;focus (repeat first|exact HPick.hit|apply HPick.miss)))
end Go.Proofs.Hk

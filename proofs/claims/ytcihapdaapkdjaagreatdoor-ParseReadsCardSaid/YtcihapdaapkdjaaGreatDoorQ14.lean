import Derived.Test.YtcihapdaapkdjaaGreatDoorQ12
import Derived.Test.YtcihapdaapkdjaaGreatDoorP2
import Derived.Test.YtcihapdaapkdjaaGreatDoorH30
import Derived.Test.YtcihapdaapkdjaaGreatDoorH41
set_option linter.unusedSimpArgs false
set_option linter.unusedVariables false
set_option maxRecDepth 4000
namespace Go.Proofs.Hk
open Go Go.Proofs
/-- What a function that reads a statement does. -/
def goalS (fn:FuncId) (args:List HV) (s0:HS) (d:Int) (S:Nat→Int→Int→HS) (res:Except (Int × Nat × Int) (SD × Nat)):Prop:=
 match res with
 |.ok (x,j)=>To fn args s0 (.ret (encSD x)) (S j d 0)
 |.error (c,j,d')=>To fn args s0 (.pan failV) (S j d' c)
theorem encSD0 (k:Int) (n p:ByteArray) (e:List ND) (a:List (List ND)):encSD (.mk k n p e a [] [])=encS7 k n p e a [] []:=by simp [encSD,encSDs]
theorem pCall_al (l:List Tk) (f:Nat) (n p:ByteArray) (d:Int) (i:Nat):pCall l f n p d i=bindR (pAl l f d i) fun a m=>okR (.mk 8 n p [] a [] []) m:=by
 unfold pCall pAl pMust
 by_cases h:isT l i (tc 40)=true
 ·rw [if_pos h];rfl
 ·rw [if_neg h];rfl
theorem pAl_facts {l:List Tk} (wf:WfT l) {f:Nat} {d:Int} {i:Nat} {a:List (List ND)} {j:Nat} (hi:i < l.length) (h:pAl l f d i=some (.ok (a,j))):j < l.length∧i+1≤j:=by
 unfold pAl at h
 obtain ⟨x,m,h1,h2⟩:=bindR_ok h
 have k1:=pMust_facts wf hi h1
 have:=pArgs0_facts wf k1.1 h2
 omega
set_option maxHeartbeats 4000000 in
theorem named_lvl (l:List Tk) (wf:WfN l) (r:Nat) (n:ByteArray) (i:Nat) (d:Int) (hi:i < l.length) (h0:0≤d) (h1:d≤50) (f:Nat) (res) (h:pNamed l f n d i=some res):goalS 48 [.ptr r 0,ss n] (rdS l r i d 0) d (rdS l r) res:=by
 have wt:=wf.toWfT
 have wl:=wt.len
 have IH:=allE l wf f
 have IS:=is_spec r l i d 0 (tc 40) hi
 unfold pNamed at h
 cases b1:isT l i (tc 40) with
 |true=>
  rw [b1] at h IS
  rw [pCall_al] at h
  have h:ended l d (bindR (pAl l f d i) fun a m=>okR (.mk 8 noS n [] a [] []) m)=some res:=h
  cases hb:pAl l f d i with
  |none=>rw [hb] at h;cases h
  |some r1=>
  rw [hb] at h
  cases r1 with
  |error x=>
   obtain ⟨c,j,d'⟩:=x
   cases h
   have C:=callF_er r l wf i d hi h0 h1 noS n f c j d' hb
   show To _ _ _ (.pan failV) _
   clear IH
   unfold rdS rd at *
   try unfold encS7 at *
   try unfold noS at *
   refine HCalls.to (sem_calls' cx (fn:=Tryz.f48) rfl rfl rfl rfl ?_)
   repeat' first|refine Ops.tag rfl ?_|(refine OpsT.go ?_;(conv=>arg 7;whnf))|refine Stp.pure rfl ?_|refine PutK.mk' rfl ?_|refine Ops.nil ?_|((with_reducible refine Side.id ?_);first|refine Side.auto ?_)|((with_reducible refine Br.id ?_);first|(with_reducible first|refine br_true rfl ?_))|((with_reducible refine SemWp.id ?_);first|refine sem_seq ?_|refine sem_region rfl ?_|refine sem_cond rfl ?_)|((with_reducible refine qThen.id ?_);first|refine qThen.go ?_)|refine Stp.call ?_|refine Stp.eff ?_|((with_reducible refine CallWp.id ?_);first|(refine callA cx (IS) ?_;(conv=>whnf))|(refine callB cx (C) ?_;(conv=>whnf)))|(refine newN (fun r hr=>?_);simp only [keys,List.nil_append,List.cons_append,List.map_cons,List.map_nil,List.mem_cons,List.not_mem_nil,not_or,or_false,not_false_eq_true] at hr)|((with_reducible refine BodyR.id ?_);first|refine BodyR.pan ?_)
   refine Fin.mk ?_
   refine ⟨WeakerE.refl _,Subp.tk⟩
  |ok x=>
   obtain ⟨a,j⟩:=x
   have C:=callF_ok r l wf i d hi h0 h1 noS n f a j hb
   have hj:=(pAl_facts wt hi hb).1
   have h:(bindR (if isT l j (tc 59)=true then okR () (j+1) else errR 4 j d) fun _ m=>okR (SD.mk 8 noS n [] a [] []) m)=some res:=h
   cases b2:isT l j (tc 59) with
   |true=>
    rw [b2] at h
    cases h
    have E:=ended_ok r l wt j d hj b2 8 noS n (LNs []) (LLNs a) (.list .no 7 []) (.list .no 7 []) ⟨rfl,rfl,rfl,rfl⟩
    show To _ _ _ (.ret (encSD (.mk 8 noS n [] a [] []))) _
    rw [encSD0]
    clear IH
    unfold rdS rd at *
    try unfold encS7 at *
    try unfold stV at *
    try unfold noS at *
    refine HCalls.to (sem_calls' cx (fn:=Tryz.f48) rfl rfl rfl rfl ?_)
    repeat' first|refine Ops.tag rfl ?_|(refine OpsT.go ?_;(conv=>arg 7;whnf))|refine Stp.pure rfl ?_|((with_reducible refine PutK.isSet ?_);refine PutK.set (by repeat first|exact HsetIs.hit|apply HsetIs.miss (by first|(apply Ne.symm;assumption))) ?_)|refine PutK.mk' rfl ?_|refine Ops.nil ?_|((with_reducible refine Look.id ?_);refine Look.auto ?_ (by repeat first|exact HGet.hit|apply HGet.miss (by first|(apply Ne.symm;assumption)));try (conv=>arg 7;whnf))|((with_reducible refine Side.id ?_);first|refine Side.auto ?_)|((with_reducible refine Br.id ?_);first|(with_reducible first|refine br_true rfl ?_))|((with_reducible refine SemWp.id ?_);first|refine sem_seq ?_|refine sem_region rfl ?_|refine sem_cond rfl ?_|refine sem_ret ?_)|((with_reducible refine qThen.id ?_);first|refine qThen.go ?_|refine qThen.ret ?_)|refine Stp.look ?_|refine Stp.call ?_|refine Stp.eff ?_|((with_reducible refine CallWp.id ?_);first|(refine callA cx (IS) ?_;(conv=>whnf))|(refine callA cx (C) ?_;(conv=>whnf))|(refine callA cx (E) ?_;(conv=>whnf)))|(refine newN (fun r hr=>?_);simp only [keys,List.nil_append,List.cons_append,List.map_cons,List.map_nil,List.mem_cons,List.not_mem_nil,not_or,or_false,not_false_eq_true] at hr)|((with_reducible refine BodyR.id ?_);first|refine BodyR.ret ?_)|((with_reducible refine ResG.id ?_);first|refine ResG.cell rfl ?_|refine ResG.nil ?_)|((with_reducible refine LoadIs.id ?_);first|refine LoadIs.agg (by repeat first|exact HGet.hit|apply HGet.miss (by first|(apply Ne.symm;assumption))) rfl rfl rfl ?_)|((with_reducible refine Upd.id ?_);first|(refine Upd.lit rfl ?_;(conv=>whnf)))
    refine Fin.mk ?_
    refine ⟨WeakerE.refl _,Subp.tk⟩
   |false=>
    rw [b2] at h
    cases h
    have E:=ended_no r l j d hj b2 8 noS n (LNs []) (LLNs a) (.list .no 7 []) (.list .no 7 []) ⟨rfl,rfl,rfl,rfl⟩
    show To _ _ _ (.pan failV) _
    clear IH
    unfold rdS rd at *
    try unfold encS7 at *
    try unfold stV at *
    try unfold noS at *
    refine HCalls.to (sem_calls' cx (fn:=Tryz.f48) rfl rfl rfl rfl ?_)
    repeat' first|refine Ops.tag rfl ?_|(refine OpsT.go ?_;(conv=>arg 7;whnf))|refine Stp.pure rfl ?_|refine PutK.mk' rfl ?_|refine Ops.nil ?_|((with_reducible refine Side.id ?_);first|refine Side.auto ?_)|((with_reducible refine Br.id ?_);first|(with_reducible first|refine br_true rfl ?_))|((with_reducible refine SemWp.id ?_);first|refine sem_seq ?_|refine sem_region rfl ?_|refine sem_cond rfl ?_)|((with_reducible refine qThen.id ?_);first|refine qThen.go ?_)|refine Stp.call ?_|refine Stp.eff ?_|((with_reducible refine CallWp.id ?_);first|(refine callA cx (IS) ?_;(conv=>whnf))|(refine callA cx (C) ?_;(conv=>whnf))|(refine callB cx (E) ?_;(conv=>whnf)))|(refine newN (fun r hr=>?_);simp only [keys,List.nil_append,List.cons_append,List.map_cons,List.map_nil,List.mem_cons,List.not_mem_nil,not_or,or_false,not_false_eq_true] at hr)|((with_reducible refine BodyR.id ?_);first|refine BodyR.pan ?_)
    refine Fin.mk ?_
    refine ⟨WeakerE.refl _,Subp.tk⟩
 |false=>
  rw [b1] at h IS
  have h:(bindR (if isT l i (tc 61)=true then okR () (i+1) else errR 4 i d) fun _ j=>
   if ((tk l j).kind == 1 && isOpen l (j+1))=true then ended l d (pCall l f n (tk l j).text d (j+1))
   else ended l d (bindR (pE l f .expr d j) fun e m=>okR (sdE 1 n (e.flat 0)) m))=some res:=h
  cases b0:isT l i (tc 61) with
  |false=>
   rw [b0] at h
   cases h
   have M:=must_no r l i d 0 (tc 61) hi b0
   show To _ _ _ (.pan failV) _
   clear IH
   unfold rdS rd at *
   try unfold encS7 at *
   try unfold noS at *
   refine HCalls.to (sem_calls' cx (fn:=Tryz.f48) rfl rfl rfl rfl ?_)
   repeat' first|refine Ops.tag rfl ?_|(refine OpsT.go ?_;(conv=>arg 7;whnf))|refine Stp.pure rfl ?_|refine PutK.mk' rfl ?_|refine Ops.nil ?_|((with_reducible refine Side.id ?_);first|refine Side.auto ?_)|((with_reducible refine Br.id ?_);first|(with_reducible first|refine br_false rfl ?_))|((with_reducible refine SemWp.id ?_);first|refine sem_seq ?_|refine sem_region rfl ?_|refine sem_cond rfl ?_|refine sem_skip ?_)|((with_reducible refine qThen.id ?_);first|refine qThen.go ?_)|refine Stp.call ?_|refine Stp.eff ?_|((with_reducible refine CallWp.id ?_);first|(refine callA cx (IS) ?_;(conv=>whnf))|(refine callB cx (M) ?_;(conv=>whnf)))|(refine newN (fun r hr=>?_);simp only [keys,List.nil_append,List.cons_append,List.map_cons,List.map_nil,List.mem_cons,List.not_mem_nil,not_or,or_false,not_false_eq_true] at hr)|((with_reducible refine BodyR.id ?_);first|refine BodyR.pan ?_)
   refine Fin.mk ?_
   refine ⟨WeakerE.refl _,Subp.tk⟩
  |true=>
  rw [b0] at h
  have h:(if ((tk l (i+1)).kind == 1 && isOpen l (i+2))=true then ended l d (pCall l f n (tk l (i+1)).text d (i+2))
   else ended l d (bindR (pE l f .expr d (i+1)) fun e m=>okR (sdE 1 n (e.flat 0)) m))=some res:=h
  have M:=must_yes r l i d 0 (tc 61) wt hi b0
  have hi1:=wt.more i hi (isT_kind b0)
  have N:=now_spec r l (i+1) d 0 hi1
  have ml:(l.map tokD).length=l.length:=by simp
  by_cases k1:(tk l (i+1)).kind=1
  rotate_left
  ·rw [if_neg (by simp [k1])] at h
   by_cases hi2:i+1+1 < l.length
   ·have g:(l.map tokD).getD (((i+1:Nat):Int)+1).toNat default=tokV (tk l (i+2)).kind (tk l (i+2)).text (tk l (i+2)).pos:=getD_tk hi2
    cases hb:pE l f .expr d (i+1) with
    |none=>rw [hb] at h;cases h
    |some r1=>
    rw [hb] at h
    have C:=IH.expr f (Nat.le_refl _) r d (i+1) r1 hi1 h0 h1 hb
    cases r1 with
    |error x=>
     obtain ⟨c,j,d'⟩:=x
     cases h
     have C:To 56 [.ptr r 0] [(r,rd l (i+1:Nat) d 0)] (.pan failV) [(r,rd l j d' c)]:=C
     show To _ _ _ (.pan failV) _
     clear IH
     unfold rdS rd at *
     try unfold encS7 at *
     try unfold noS at *
     refine HCalls.to (sem_calls' cx (fn:=Tryz.f48) rfl rfl rfl rfl ?_)
     repeat' first|(rw [g];(conv=>arg 7;whnf))|refine Ops.tag rfl ?_|(refine OpsT.go ?_;(conv=>arg 7;whnf))|refine Stp.pure rfl ?_|refine PutK.mk' rfl ?_|refine Ops.nil ?_|(refine DOps.cons rfl rfl ?_;(conv=>arg 7;whnf))|(with_reducible first|refine DStp.andF ?_)|((with_reducible refine DStp.isSum ?_);refine DStp.sum ?_)|((with_reducible refine DStp.isEq ?_);first|refine DStp.eqF ?_)|refine DStp.pure rfl ?_|refine PutD.mk' rfl ?_|refine DOps.nil rfl ?_|((with_reducible refine Look.id ?_);refine Look.at ?_;try (conv=>arg 7;whnf))|((with_reducible refine Side.id ?_);first|refine Side.auto ?_)|((with_reducible refine Br.id ?_);first|(with_reducible first|refine br_false rfl ?_))|((with_reducible refine SemWp.id ?_);first|refine sem_seq ?_|refine sem_region rfl ?_|refine sem_cond rfl ?_|refine sem_skip ?_|refine sem_draw ?_)|((with_reducible refine qThen.id ?_);first|refine qThen.go ?_)|refine Stp.call ?_|refine Stp.eff ?_|refine DStp.valS ?_|refine DStp.valSC ?_|refine DStp.look ?_|refine DStp.call ?_|((with_reducible refine CallWp.id ?_);first|(refine callA cx (IS) ?_;(conv=>whnf))|(refine callA cx (M) ?_;(conv=>whnf))|(refine callB cx (C) ?_;(conv=>whnf)))|((with_reducible refine QAsk.id ?_);first|(refine askS (N) (by repeat first|exact HTake.nil|(apply HTake.cons;focus (repeat first|exact HPick.hit))) ?_ ?_;focus (intro h;first|exact rfl)))|((with_reducible refine DrawReg.id ?_);refine drawQ' cx (by decide +kernel) rfl ?_)|(refine newN (fun r hr=>?_);simp only [keys,List.nil_append,List.cons_append,List.map_cons,List.map_nil,List.mem_cons,List.not_mem_nil,not_or,or_false,not_false_eq_true] at hr)|((with_reducible refine BodyR.id ?_);first|refine BodyR.pan ?_)
     refine Fin.mk ?_
     refine ⟨WeakerE.refl _,Subp.tk⟩
    |ok x=>
     obtain ⟨x,j⟩:=x
     have C:ToOwn cx.P 56 [.ptr r 0] [(r,rd l (i+1:Nat) d 0)] 5 ((x.flat 0).map encN) [(r,rd l j d 0)]:=C
     have hj:=(pE_facts wt f _ d (i+1) x j hi1 hb).1
     have h:(bindR (if isT l j (tc 59)=true then okR () (j+1) else errR 4 j d) fun _ m=>okR (SD.mk 1 n noS (x.flat 0) [] [] []) m)=some res:=h
     generalize x.flat 0=xf at *
     cases b2:isT l j (tc 59) with
     |true=>
      rw [b2] at h
      cases h
      have E:=fun rt=>ended_ok r l wt j d hj b2 1 n ⟨#[]⟩ (.list (.own rt 0) 5 (xf.map encN)) (.v (.slice none 0 0)) (.v (.slice none 0 0)) (.v (.slice none 0 0)) ⟨rfl,rfl,rfl,rfl⟩
      show To _ _ _ (.ret (encSD (.mk 1 n noS xf [] [] []))) _
      rw [encSD0]
      clear IH
      unfold rdS rd at *
      try unfold encS7 at *
      try unfold stV at *
      try unfold noS at *
      refine HCalls.to (sem_calls' cx (fn:=Tryz.f48) rfl rfl rfl rfl ?_)
      repeat' first|(rw [g];(conv=>arg 7;whnf))|refine Ops.tag rfl ?_|(refine OpsT.go ?_;(conv=>arg 7;whnf))|refine Stp.pure rfl ?_|((with_reducible refine PutK.isSet ?_);refine PutK.set (by repeat first|exact HsetIs.hit|apply HsetIs.miss (by first|(apply Ne.symm;assumption)|omega)) ?_)|refine PutK.mk' rfl ?_|refine Ops.nil ?_|(refine DOps.cons rfl rfl ?_;(conv=>arg 7;whnf))|(with_reducible first|refine DStp.andF ?_)|((with_reducible refine DStp.isSum ?_);refine DStp.sum ?_)|((with_reducible refine DStp.isEq ?_);first|refine DStp.eqF ?_)|refine DStp.pure rfl ?_|refine PutD.mk' rfl ?_|refine DOps.nil rfl ?_|((with_reducible refine Look.id ?_);refine Look.auto ?_ (by repeat first|exact HGet.hit|apply HGet.miss (by first|(apply Ne.symm;assumption)|omega));try (conv=>arg 7;whnf))|((with_reducible refine Side.id ?_);first|refine Side.auto ?_)|((with_reducible refine Br.id ?_);first|(with_reducible first|refine br_false rfl ?_))|((with_reducible refine SemWp.id ?_);first|refine sem_seq ?_|refine sem_region rfl ?_|refine sem_cond rfl ?_|refine sem_ret ?_|refine sem_skip ?_|refine sem_draw ?_)|((with_reducible refine qThen.id ?_);first|refine qThen.go ?_)|refine Stp.look ?_|refine Stp.call ?_|refine Stp.eff ?_|refine DStp.valS ?_|refine DStp.valSC ?_|refine DStp.look ?_|refine DStp.call ?_|((with_reducible refine CallWp.id ?_);first|(refine callA cx (IS) ?_;(conv=>whnf))|(refine callA cx (M) ?_;(conv=>whnf))|(refine callTO cx (C) (by repeat first|exact HTake.nil|(apply HTake.cons;focus (repeat first|exact HPick.hit))) (fun rt hrt=>?_);simp only [keys,List.nil_append,List.cons_append,List.map_cons,List.map_nil,List.mem_cons,List.not_mem_nil,not_or,or_false,not_false_eq_true] at hrt;(conv=>whnf))|(refine callA cx (E rt) ?_;(conv=>whnf)))|((with_reducible refine QAsk.id ?_);first|(refine askS (N) (by repeat first|exact HTake.nil|(apply HTake.cons;focus (repeat first|exact HPick.hit))) ?_ ?_;focus (intro h;first|exact rfl)))|((with_reducible refine DrawReg.id ?_);refine drawQ' cx (by decide +kernel) rfl ?_)|(refine newN (fun r hr=>?_);simp only [keys,List.nil_append,List.cons_append,List.map_cons,List.map_nil,List.mem_cons,List.not_mem_nil,not_or,or_false,not_false_eq_true] at hr)|((with_reducible refine BodyR.id ?_);first|refine BodyR.ret ?_)|((with_reducible refine ResG.id ?_);first|refine ResG.cell rfl ?_|refine ResG.nil ?_)|((with_reducible refine LoadIs.id ?_);first|refine LoadIs.agg (by repeat first|exact HGet.hit|apply HGet.miss (by first|(apply Ne.symm;assumption)|omega)) rfl rfl rfl ?_)|((with_reducible refine Upd.id ?_);first|(refine Upd.lit rfl ?_;(conv=>whnf)))
      refine Fin.mk ?_
      refine ⟨(by refine WeakerE.ret (Weaker.agg ?_);(repeat first|exact WeakerC.nil|refine WeakerC.cons ?_ rfl ?_|exact Weaker.refl _|exact Weaker.nil _|exact Weaker.tok _ _ _)),Subp.tk⟩
     |false=>
      rw [b2] at h
      cases h
      have E:=fun rt=>ended_no r l j d hj b2 1 n ⟨#[]⟩ (.list (.own rt 0) 5 (xf.map encN)) (.v (.slice none 0 0)) (.v (.slice none 0 0)) (.v (.slice none 0 0)) ⟨rfl,rfl,rfl,rfl⟩
      show To _ _ _ (.pan failV) _
      clear IH
      unfold rdS rd at *
      try unfold encS7 at *
      try unfold stV at *
      try unfold noS at *
      refine HCalls.to (sem_calls' cx (fn:=Tryz.f48) rfl rfl rfl rfl ?_)
      repeat' first|(rw [g];(conv=>arg 7;whnf))|refine Ops.tag rfl ?_|(refine OpsT.go ?_;(conv=>arg 7;whnf))|refine Stp.pure rfl ?_|refine PutK.mk' rfl ?_|refine Ops.nil ?_|(refine DOps.cons rfl rfl ?_;(conv=>arg 7;whnf))|(with_reducible first|refine DStp.andF ?_)|((with_reducible refine DStp.isSum ?_);refine DStp.sum ?_)|((with_reducible refine DStp.isEq ?_);first|refine DStp.eqF ?_)|refine DStp.pure rfl ?_|refine PutD.mk' rfl ?_|refine DOps.nil rfl ?_|((with_reducible refine Look.id ?_);refine Look.at ?_;try (conv=>arg 7;whnf))|((with_reducible refine Side.id ?_);first|refine Side.auto ?_)|((with_reducible refine Br.id ?_);first|(with_reducible first|refine br_false rfl ?_))|((with_reducible refine SemWp.id ?_);first|refine sem_seq ?_|refine sem_region rfl ?_|refine sem_cond rfl ?_|refine sem_skip ?_|refine sem_draw ?_)|((with_reducible refine qThen.id ?_);first|refine qThen.go ?_)|refine Stp.call ?_|refine Stp.eff ?_|refine DStp.valS ?_|refine DStp.valSC ?_|refine DStp.look ?_|refine DStp.call ?_|((with_reducible refine CallWp.id ?_);first|(refine callA cx (IS) ?_;(conv=>whnf))|(refine callA cx (M) ?_;(conv=>whnf))|(refine callTO cx (C) (by repeat first|exact HTake.nil|(apply HTake.cons;focus (repeat first|exact HPick.hit))) (fun rt hrt=>?_);simp only [keys,List.nil_append,List.cons_append,List.map_cons,List.map_nil,List.mem_cons,List.not_mem_nil,not_or,or_false,not_false_eq_true] at hrt;(conv=>whnf))|(refine callB cx (E rt) ?_;(conv=>whnf)))|((with_reducible refine QAsk.id ?_);first|(refine askS (N) (by repeat first|exact HTake.nil|(apply HTake.cons;focus (repeat first|exact HPick.hit))) ?_ ?_;focus (intro h;first|exact rfl)))|((with_reducible refine DrawReg.id ?_);refine drawQ' cx (by decide +kernel) rfl ?_)|(refine newN (fun r hr=>?_);simp only [keys,List.nil_append,List.cons_append,List.map_cons,List.map_nil,List.mem_cons,List.not_mem_nil,not_or,or_false,not_false_eq_true] at hr)|((with_reducible refine BodyR.id ?_);first|refine BodyR.pan ?_)
      refine Fin.mk ?_
      refine ⟨WeakerE.refl _,Subp.tk⟩
   ·have g:(l.map tokD).getD (((i+1:Nat):Int)+1).toNat default = .v (.bool false):=by
     rw [show (((i+1:Nat):Int)+1).toNat=i+1+1 from rfl]
     rw [List.getD_eq_getElem?_getD,List.getElem?_eq_none (by rw [ml];omega)];rfl
    cases hb:pE l f .expr d (i+1) with
    |none=>rw [hb] at h;cases h
    |some r1=>
    rw [hb] at h
    have C:=IH.expr f (Nat.le_refl _) r d (i+1) r1 hi1 h0 h1 hb
    cases r1 with
    |error x=>
     obtain ⟨c,j,d'⟩:=x
     cases h
     have C:To 56 [.ptr r 0] [(r,rd l (i+1:Nat) d 0)] (.pan failV) [(r,rd l j d' c)]:=C
     show To _ _ _ (.pan failV) _
     clear IH
     unfold rdS rd at *
     try unfold encS7 at *
     try unfold noS at *
     refine HCalls.to (sem_calls' cx (fn:=Tryz.f48) rfl rfl rfl rfl ?_)
     repeat' first|(rw [g];(conv=>arg 7;whnf))|refine Ops.tag rfl ?_|(refine OpsT.go ?_;(conv=>arg 7;whnf))|refine Stp.pure rfl ?_|refine PutK.mk' rfl ?_|refine Ops.nil ?_|(refine DOps.cons rfl rfl ?_;(conv=>arg 7;whnf))|(with_reducible first|refine DStp.andF ?_)|((with_reducible refine DStp.isSum ?_);refine DStp.sum ?_)|((with_reducible refine DStp.isEq ?_);first|refine DStp.eqF ?_)|refine DStp.pure rfl ?_|refine DStp.dead rfl ?_|refine PutD.mk' rfl ?_|refine DOps.nil rfl ?_|((with_reducible refine Look.id ?_);refine Look.at ?_;try (conv=>arg 7;whnf))|((with_reducible refine Side.id ?_);first|refine Side.auto ?_)|((with_reducible refine Br.id ?_);first|(with_reducible first|refine br_false rfl ?_))|((with_reducible refine SemWp.id ?_);first|refine sem_seq ?_|refine sem_region rfl ?_|refine sem_cond rfl ?_|refine sem_skip ?_|refine sem_draw ?_)|((with_reducible refine qThen.id ?_);first|refine qThen.go ?_)|refine Stp.call ?_|refine Stp.eff ?_|refine DStp.valS ?_|refine DStp.valSC ?_|refine DStp.look ?_|refine DStp.call ?_|((with_reducible refine CallWp.id ?_);first|(refine callA cx (IS) ?_;(conv=>whnf))|(refine callA cx (M) ?_;(conv=>whnf))|(refine callB cx (C) ?_;(conv=>whnf)))|((with_reducible refine QAsk.id ?_);first|(refine askS (N) (by repeat first|exact HTake.nil|(apply HTake.cons;focus (repeat first|exact HPick.hit))) ?_ ?_;focus (intro h;first|exact rfl)))|((with_reducible refine DrawReg.id ?_);refine drawQ' cx (by decide +kernel) rfl ?_)|(refine newN (fun r hr=>?_);simp only [keys,List.nil_append,List.cons_append,List.map_cons,List.map_nil,List.mem_cons,List.not_mem_nil,not_or,or_false,not_false_eq_true] at hr)|((with_reducible refine BodyR.id ?_);first|refine BodyR.pan ?_)
     refine Fin.mk ?_
     refine ⟨WeakerE.refl _,Subp.tk⟩
    |ok x=>
     obtain ⟨x,j⟩:=x
     have C:ToOwn cx.P 56 [.ptr r 0] [(r,rd l (i+1:Nat) d 0)] 5 ((x.flat 0).map encN) [(r,rd l j d 0)]:=C
     have hj:=(pE_facts wt f _ d (i+1) x j hi1 hb).1
     have h:(bindR (if isT l j (tc 59)=true then okR () (j+1) else errR 4 j d) fun _ m=>okR (SD.mk 1 n noS (x.flat 0) [] [] []) m)=some res:=h
     generalize x.flat 0=xf at *
     cases b2:isT l j (tc 59) with
     |true=>
      rw [b2] at h
      cases h
      have E:=fun rt=>ended_ok r l wt j d hj b2 1 n ⟨#[]⟩ (.list (.own rt 0) 5 (xf.map encN)) (.v (.slice none 0 0)) (.v (.slice none 0 0)) (.v (.slice none 0 0)) ⟨rfl,rfl,rfl,rfl⟩
      show To _ _ _ (.ret (encSD (.mk 1 n noS xf [] [] []))) _
      rw [encSD0]
      clear IH
      unfold rdS rd at *
      try unfold encS7 at *
      try unfold stV at *
      try unfold noS at *
      refine HCalls.to (sem_calls' cx (fn:=Tryz.f48) rfl rfl rfl rfl ?_)
      repeat' first|(rw [g];(conv=>arg 7;whnf))|refine Ops.tag rfl ?_|(refine OpsT.go ?_;(conv=>arg 7;whnf))|refine Stp.pure rfl ?_|((with_reducible refine PutK.isSet ?_);refine PutK.set (by repeat first|exact HsetIs.hit|apply HsetIs.miss (by first|(apply Ne.symm;assumption)|omega)) ?_)|refine PutK.mk' rfl ?_|refine Ops.nil ?_|(refine DOps.cons rfl rfl ?_;(conv=>arg 7;whnf))|(with_reducible first|refine DStp.andF ?_)|((with_reducible refine DStp.isSum ?_);refine DStp.sum ?_)|((with_reducible refine DStp.isEq ?_);first|refine DStp.eqF ?_)|refine DStp.pure rfl ?_|refine DStp.dead rfl ?_|refine PutD.mk' rfl ?_|refine DOps.nil rfl ?_|((with_reducible refine Look.id ?_);refine Look.auto ?_ (by repeat first|exact HGet.hit|apply HGet.miss (by first|(apply Ne.symm;assumption)|omega));try (conv=>arg 7;whnf))|((with_reducible refine Side.id ?_);first|refine Side.auto ?_)|((with_reducible refine Br.id ?_);first|(with_reducible first|refine br_false rfl ?_))|((with_reducible refine SemWp.id ?_);first|refine sem_seq ?_|refine sem_region rfl ?_|refine sem_cond rfl ?_|refine sem_ret ?_|refine sem_skip ?_|refine sem_draw ?_)|((with_reducible refine qThen.id ?_);first|refine qThen.go ?_)|refine Stp.look ?_|refine Stp.call ?_|refine Stp.eff ?_|refine DStp.valS ?_|refine DStp.valSC ?_|refine DStp.look ?_|refine DStp.call ?_|((with_reducible refine CallWp.id ?_);first|(refine callA cx (IS) ?_;(conv=>whnf))|(refine callA cx (M) ?_;(conv=>whnf))|(refine callTO cx (C) (by repeat first|exact HTake.nil|(apply HTake.cons;focus (repeat first|exact HPick.hit))) (fun rt hrt=>?_);simp only [keys,List.nil_append,List.cons_append,List.map_cons,List.map_nil,List.mem_cons,List.not_mem_nil,not_or,or_false,not_false_eq_true] at hrt;(conv=>whnf))|(refine callA cx (E rt) ?_;(conv=>whnf)))|((with_reducible refine QAsk.id ?_);first|(refine askS (N) (by repeat first|exact HTake.nil|(apply HTake.cons;focus (repeat first|exact HPick.hit))) ?_ ?_;focus (intro h;first|exact rfl)))|((with_reducible refine DrawReg.id ?_);refine drawQ' cx (by decide +kernel) rfl ?_)|(refine newN (fun r hr=>?_);simp only [keys,List.nil_append,List.cons_append,List.map_cons,List.map_nil,List.mem_cons,List.not_mem_nil,not_or,or_false,not_false_eq_true] at hr)|((with_reducible refine BodyR.id ?_);first|refine BodyR.ret ?_)|((with_reducible refine ResG.id ?_);first|refine ResG.cell rfl ?_|refine ResG.nil ?_)|((with_reducible refine LoadIs.id ?_);first|refine LoadIs.agg (by repeat first|exact HGet.hit|apply HGet.miss (by first|(apply Ne.symm;assumption)|omega)) rfl rfl rfl ?_)|((with_reducible refine Upd.id ?_);first|(refine Upd.lit rfl ?_;(conv=>whnf)))
      refine Fin.mk ?_
      refine ⟨(by refine WeakerE.ret (Weaker.agg ?_);(repeat first|exact WeakerC.nil|refine WeakerC.cons ?_ rfl ?_|exact Weaker.refl _|exact Weaker.nil _|exact Weaker.tok _ _ _)),Subp.tk⟩
     |false=>
      rw [b2] at h
      cases h
      have E:=fun rt=>ended_no r l j d hj b2 1 n ⟨#[]⟩ (.list (.own rt 0) 5 (xf.map encN)) (.v (.slice none 0 0)) (.v (.slice none 0 0)) (.v (.slice none 0 0)) ⟨rfl,rfl,rfl,rfl⟩
      show To _ _ _ (.pan failV) _
      clear IH
      unfold rdS rd at *
      try unfold encS7 at *
      try unfold stV at *
      try unfold noS at *
      refine HCalls.to (sem_calls' cx (fn:=Tryz.f48) rfl rfl rfl rfl ?_)
      repeat' first|(rw [g];(conv=>arg 7;whnf))|refine Ops.tag rfl ?_|(refine OpsT.go ?_;(conv=>arg 7;whnf))|refine Stp.pure rfl ?_|refine PutK.mk' rfl ?_|refine Ops.nil ?_|(refine DOps.cons rfl rfl ?_;(conv=>arg 7;whnf))|(with_reducible first|refine DStp.andF ?_)|((with_reducible refine DStp.isSum ?_);refine DStp.sum ?_)|((with_reducible refine DStp.isEq ?_);first|refine DStp.eqF ?_)|refine DStp.pure rfl ?_|refine DStp.dead rfl ?_|refine PutD.mk' rfl ?_|refine DOps.nil rfl ?_|((with_reducible refine Look.id ?_);refine Look.at ?_;try (conv=>arg 7;whnf))|((with_reducible refine Side.id ?_);first|refine Side.auto ?_)|((with_reducible refine Br.id ?_);first|(with_reducible first|refine br_false rfl ?_))|((with_reducible refine SemWp.id ?_);first|refine sem_seq ?_|refine sem_region rfl ?_|refine sem_cond rfl ?_|refine sem_skip ?_|refine sem_draw ?_)|((with_reducible refine qThen.id ?_);first|refine qThen.go ?_)|refine Stp.call ?_|refine Stp.eff ?_|refine DStp.valS ?_|refine DStp.valSC ?_|refine DStp.look ?_|refine DStp.call ?_|((with_reducible refine CallWp.id ?_);first|(refine callA cx (IS) ?_;(conv=>whnf))|(refine callA cx (M) ?_;(conv=>whnf))|(refine callTO cx (C) (by repeat first|exact HTake.nil|(apply HTake.cons;focus (repeat first|exact HPick.hit))) (fun rt hrt=>?_);simp only [keys,List.nil_append,List.cons_append,List.map_cons,List.map_nil,List.mem_cons,List.not_mem_nil,not_or,or_false,not_false_eq_true] at hrt;(conv=>whnf))|(refine callB cx (E rt) ?_;(conv=>whnf)))|((with_reducible refine QAsk.id ?_);first|(refine askS (N) (by repeat first|exact HTake.nil|(apply HTake.cons;focus (repeat first|exact HPick.hit))) ?_ ?_;focus (intro h;first|exact rfl)))|((with_reducible refine DrawReg.id ?_);refine drawQ' cx (by decide +kernel) rfl ?_)|(refine newN (fun r hr=>?_);simp only [keys,List.nil_append,List.cons_append,List.map_cons,List.map_nil,List.mem_cons,List.not_mem_nil,not_or,or_false,not_false_eq_true] at hr)|((with_reducible refine BodyR.id ?_);first|refine BodyR.pan ?_)
      refine Fin.mk ?_
      refine ⟨WeakerE.refl _,Subp.tk⟩
  ·have NM:=name_yes r l (i+1) d 0 wt hi1 k1
   have hi2:=wt.more (i+1) hi1 (by omega)
   have g:(l.map tokD).getD (((i+1:Nat):Int)+1).toNat default=tokV (tk l (i+2)).kind (tk l (i+2)).text (tk l (i+2)).pos:=getD_tk hi2
   cases ho:isOpen l (i+2) with
   |false=>
    rw [if_neg (by simp [ho])] at h
    unfold isOpen at ho
    by_cases k4:(tk l (i+2)).kind=4
    ·have hs:strEq (tk l (i+2)).text ⟨#[40]⟩=false:=by rw [k4] at ho;exact ho
     rw [k4] at g
     clear ho
     cases hb:pE l f .expr d (i+1) with
     |none=>rw [hb] at h;cases h
     |some r1=>
     rw [hb] at h
     have C:=IH.expr f (Nat.le_refl _) r d (i+1) r1 hi1 h0 h1 hb
     cases r1 with
     |error x=>
      obtain ⟨c,j,d'⟩:=x
      cases h
      have C:To 56 [.ptr r 0] [(r,rd l (i+1:Nat) d 0)] (.pan failV) [(r,rd l j d' c)]:=C
      show To _ _ _ (.pan failV) _
      clear IH
      unfold rdS rd at *
      try unfold encS7 at *
      try unfold noS at *
      rw [k1] at N
      refine HCalls.to (sem_calls' cx (fn:=Tryz.f48) rfl rfl rfl rfl ?_)
      repeat' first|(rw [g];(conv=>arg 7;whnf))|(with_reducible first|refine DStp.rwB (hs) ?_)|refine Ops.tag rfl ?_|(refine OpsT.go ?_;(conv=>arg 7;whnf))|refine Stp.pure rfl ?_|refine PutK.mk' rfl ?_|refine Ops.nil ?_|(refine DOps.cons rfl rfl ?_;(conv=>arg 7;whnf))|(with_reducible first|refine DStp.andT ?_)|((with_reducible refine DStp.isSum ?_);refine DStp.sum ?_)|((with_reducible refine DStp.isEq ?_);first|refine DStp.eqT ?_)|refine DStp.pure rfl ?_|refine PutD.mk' rfl ?_|refine DOps.nil rfl ?_|((with_reducible refine Look.id ?_);refine Look.at ?_;try (conv=>arg 7;whnf))|((with_reducible refine Side.id ?_);first|refine Side.auto ?_)|((with_reducible refine Br.id ?_);first|(with_reducible first|refine br_false rfl ?_))|((with_reducible refine SemWp.id ?_);first|refine sem_seq ?_|refine sem_region rfl ?_|refine sem_cond rfl ?_|refine sem_skip ?_|refine sem_draw ?_)|((with_reducible refine qThen.id ?_);first|refine qThen.go ?_)|refine Stp.call ?_|refine Stp.eff ?_|refine DStp.valS ?_|refine DStp.valSC ?_|refine DStp.look ?_|refine DStp.call ?_|((with_reducible refine CallWp.id ?_);first|(refine callA cx (IS) ?_;(conv=>whnf))|(refine callA cx (M) ?_;(conv=>whnf))|(refine callB cx (C) ?_;(conv=>whnf)))|((with_reducible refine QAsk.id ?_);first|(refine askS (N) (by repeat first|exact HTake.nil|(apply HTake.cons;focus (repeat first|exact HPick.hit))) ?_ ?_;focus (intro h;first|exact rfl)))|((with_reducible refine DrawReg.id ?_);refine drawQ' cx (by decide +kernel) rfl ?_)|(refine newN (fun r hr=>?_);simp only [keys,List.nil_append,List.cons_append,List.map_cons,List.map_nil,List.mem_cons,List.not_mem_nil,not_or,or_false,not_false_eq_true] at hr)|((with_reducible refine BodyR.id ?_);first|refine BodyR.pan ?_)
      refine Fin.mk ?_
      refine ⟨WeakerE.refl _,Subp.tk⟩
     |ok x=>
      obtain ⟨x,j⟩:=x
      have C:ToOwn cx.P 56 [.ptr r 0] [(r,rd l (i+1:Nat) d 0)] 5 ((x.flat 0).map encN) [(r,rd l j d 0)]:=C
      have hj:=(pE_facts wt f _ d (i+1) x j hi1 hb).1
      have h:(bindR (if isT l j (tc 59)=true then okR () (j+1) else errR 4 j d) fun _ m=>okR (SD.mk 1 n noS (x.flat 0) [] [] []) m)=some res:=h
      generalize x.flat 0=xf at *
      cases b2:isT l j (tc 59) with
      |true=>
       rw [b2] at h
       cases h
       have E:=fun rt=>ended_ok r l wt j d hj b2 1 n ⟨#[]⟩ (.list (.own rt 0) 5 (xf.map encN)) (.v (.slice none 0 0)) (.v (.slice none 0 0)) (.v (.slice none 0 0)) ⟨rfl,rfl,rfl,rfl⟩
       show To _ _ _ (.ret (encSD (.mk 1 n noS xf [] [] []))) _
       rw [encSD0]
       clear IH
       unfold rdS rd at *
       try unfold encS7 at *
       try unfold stV at *
       try unfold noS at *
       rw [k1] at N
       refine HCalls.to (sem_calls' cx (fn:=Tryz.f48) rfl rfl rfl rfl ?_)
       repeat' first|(rw [g];(conv=>arg 7;whnf))|(with_reducible first|refine DStp.rwB (hs) ?_)|refine Ops.tag rfl ?_|(refine OpsT.go ?_;(conv=>arg 7;whnf))|refine Stp.pure rfl ?_|((with_reducible refine PutK.isSet ?_);refine PutK.set (by repeat first|exact HsetIs.hit|apply HsetIs.miss (by first|(apply Ne.symm;assumption)|omega)) ?_)|refine PutK.mk' rfl ?_|refine Ops.nil ?_|(refine DOps.cons rfl rfl ?_;(conv=>arg 7;whnf))|(with_reducible first|refine DStp.andT ?_)|((with_reducible refine DStp.isSum ?_);refine DStp.sum ?_)|((with_reducible refine DStp.isEq ?_);first|refine DStp.eqT ?_)|refine DStp.pure rfl ?_|refine PutD.mk' rfl ?_|refine DOps.nil rfl ?_|((with_reducible refine Look.id ?_);refine Look.auto ?_ (by repeat first|exact HGet.hit|apply HGet.miss (by first|(apply Ne.symm;assumption)|omega));try (conv=>arg 7;whnf))|((with_reducible refine Side.id ?_);first|refine Side.auto ?_)|((with_reducible refine Br.id ?_);first|(with_reducible first|refine br_false rfl ?_))|((with_reducible refine SemWp.id ?_);first|refine sem_seq ?_|refine sem_region rfl ?_|refine sem_cond rfl ?_|refine sem_ret ?_|refine sem_skip ?_|refine sem_draw ?_)|((with_reducible refine qThen.id ?_);first|refine qThen.go ?_)|refine Stp.look ?_|refine Stp.call ?_|refine Stp.eff ?_|refine DStp.valS ?_|refine DStp.valSC ?_|refine DStp.look ?_|refine DStp.call ?_|((with_reducible refine CallWp.id ?_);first|(refine callA cx (IS) ?_;(conv=>whnf))|(refine callA cx (M) ?_;(conv=>whnf))|(refine callTO cx (C) (by repeat first|exact HTake.nil|(apply HTake.cons;focus (repeat first|exact HPick.hit))) (fun rt hrt=>?_);simp only [keys,List.nil_append,List.cons_append,List.map_cons,List.map_nil,List.mem_cons,List.not_mem_nil,not_or,or_false,not_false_eq_true] at hrt;(conv=>whnf))|(refine callA cx (E rt) ?_;(conv=>whnf)))|((with_reducible refine QAsk.id ?_);first|(refine askS (N) (by repeat first|exact HTake.nil|(apply HTake.cons;focus (repeat first|exact HPick.hit))) ?_ ?_;focus (intro h;first|exact rfl)))|((with_reducible refine DrawReg.id ?_);refine drawQ' cx (by decide +kernel) rfl ?_)|(refine newN (fun r hr=>?_);simp only [keys,List.nil_append,List.cons_append,List.map_cons,List.map_nil,List.mem_cons,List.not_mem_nil,not_or,or_false,not_false_eq_true] at hr)|((with_reducible refine BodyR.id ?_);first|refine BodyR.ret ?_)|((with_reducible refine ResG.id ?_);first|refine ResG.cell rfl ?_|refine ResG.nil ?_)|((with_reducible refine LoadIs.id ?_);first|refine LoadIs.agg (by repeat first|exact HGet.hit|apply HGet.miss (by first|(apply Ne.symm;assumption)|omega)) rfl rfl rfl ?_)|((with_reducible refine Upd.id ?_);first|(refine Upd.lit rfl ?_;(conv=>whnf)))
       refine Fin.mk ?_
       refine ⟨(by refine WeakerE.ret (Weaker.agg ?_);(repeat first|exact WeakerC.nil|refine WeakerC.cons ?_ rfl ?_|exact Weaker.refl _|exact Weaker.nil _|exact Weaker.tok _ _ _)),Subp.tk⟩
      |false=>
       rw [b2] at h
       cases h
       have E:=fun rt=>ended_no r l j d hj b2 1 n ⟨#[]⟩ (.list (.own rt 0) 5 (xf.map encN)) (.v (.slice none 0 0)) (.v (.slice none 0 0)) (.v (.slice none 0 0)) ⟨rfl,rfl,rfl,rfl⟩
       show To _ _ _ (.pan failV) _
       clear IH
       unfold rdS rd at *
       try unfold encS7 at *
       try unfold stV at *
       try unfold noS at *
       rw [k1] at N
       refine HCalls.to (sem_calls' cx (fn:=Tryz.f48) rfl rfl rfl rfl ?_)
       repeat' first|(rw [g];(conv=>arg 7;whnf))|(with_reducible first|refine DStp.rwB (hs) ?_)|refine Ops.tag rfl ?_|(refine OpsT.go ?_;(conv=>arg 7;whnf))|refine Stp.pure rfl ?_|refine PutK.mk' rfl ?_|refine Ops.nil ?_|(refine DOps.cons rfl rfl ?_;(conv=>arg 7;whnf))|(with_reducible first|refine DStp.andT ?_)|((with_reducible refine DStp.isSum ?_);refine DStp.sum ?_)|((with_reducible refine DStp.isEq ?_);first|refine DStp.eqT ?_)|refine DStp.pure rfl ?_|refine PutD.mk' rfl ?_|refine DOps.nil rfl ?_|((with_reducible refine Look.id ?_);refine Look.at ?_;try (conv=>arg 7;whnf))|((with_reducible refine Side.id ?_);first|refine Side.auto ?_)|((with_reducible refine Br.id ?_);first|(with_reducible first|refine br_false rfl ?_))|((with_reducible refine SemWp.id ?_);first|refine sem_seq ?_|refine sem_region rfl ?_|refine sem_cond rfl ?_|refine sem_skip ?_|refine sem_draw ?_)|((with_reducible refine qThen.id ?_);first|refine qThen.go ?_)|refine Stp.call ?_|refine Stp.eff ?_|refine DStp.valS ?_|refine DStp.valSC ?_|refine DStp.look ?_|refine DStp.call ?_|((with_reducible refine CallWp.id ?_);first|(refine callA cx (IS) ?_;(conv=>whnf))|(refine callA cx (M) ?_;(conv=>whnf))|(refine callTO cx (C) (by repeat first|exact HTake.nil|(apply HTake.cons;focus (repeat first|exact HPick.hit))) (fun rt hrt=>?_);simp only [keys,List.nil_append,List.cons_append,List.map_cons,List.map_nil,List.mem_cons,List.not_mem_nil,not_or,or_false,not_false_eq_true] at hrt;(conv=>whnf))|(refine callB cx (E rt) ?_;(conv=>whnf)))|((with_reducible refine QAsk.id ?_);first|(refine askS (N) (by repeat first|exact HTake.nil|(apply HTake.cons;focus (repeat first|exact HPick.hit))) ?_ ?_;focus (intro h;first|exact rfl)))|((with_reducible refine DrawReg.id ?_);refine drawQ' cx (by decide +kernel) rfl ?_)|(refine newN (fun r hr=>?_);simp only [keys,List.nil_append,List.cons_append,List.map_cons,List.map_nil,List.mem_cons,List.not_mem_nil,not_or,or_false,not_false_eq_true] at hr)|((with_reducible refine BodyR.id ?_);first|refine BodyR.pan ?_)
       refine Fin.mk ?_
       refine ⟨WeakerE.refl _,Subp.tk⟩
    ·have hs:((tk l (i+2)).kind == 4)=false:=by simp [k4]
     clear ho
     cases hb:pE l f .expr d (i+1) with
     |none=>rw [hb] at h;cases h
     |some r1=>
     rw [hb] at h
     have C:=IH.expr f (Nat.le_refl _) r d (i+1) r1 hi1 h0 h1 hb
     cases r1 with
     |error x=>
      obtain ⟨c,j,d'⟩:=x
      cases h
      have C:To 56 [.ptr r 0] [(r,rd l (i+1:Nat) d 0)] (.pan failV) [(r,rd l j d' c)]:=C
      show To _ _ _ (.pan failV) _
      clear IH
      unfold rdS rd at *
      try unfold encS7 at *
      try unfold noS at *
      rw [k1] at N
      refine HCalls.to (sem_calls' cx (fn:=Tryz.f48) rfl rfl rfl rfl ?_)
      repeat' first|(rw [g];(conv=>arg 7;whnf))|(with_reducible first|refine DStp.rwB (hs) ?_)|refine Ops.tag rfl ?_|(refine OpsT.go ?_;(conv=>arg 7;whnf))|refine Stp.pure rfl ?_|refine PutK.mk' rfl ?_|refine Ops.nil ?_|(refine DOps.cons rfl rfl ?_;(conv=>arg 7;whnf))|(with_reducible first|refine DStp.andT ?_|refine DStp.andF ?_)|((with_reducible refine DStp.isSum ?_);refine DStp.sum ?_)|((with_reducible refine DStp.isEq ?_);first|refine DStp.eqT ?_)|refine DStp.pure rfl ?_|refine PutD.mk' rfl ?_|refine DOps.nil rfl ?_|((with_reducible refine Look.id ?_);refine Look.at ?_;try (conv=>arg 7;whnf))|((with_reducible refine Side.id ?_);first|refine Side.auto ?_)|((with_reducible refine Br.id ?_);first|(with_reducible first|refine br_false rfl ?_))|((with_reducible refine SemWp.id ?_);first|refine sem_seq ?_|refine sem_region rfl ?_|refine sem_cond rfl ?_|refine sem_skip ?_|refine sem_draw ?_)|((with_reducible refine qThen.id ?_);first|refine qThen.go ?_)|refine Stp.call ?_|refine Stp.eff ?_|refine DStp.valS ?_|refine DStp.valSC ?_|refine DStp.look ?_|refine DStp.call ?_|((with_reducible refine CallWp.id ?_);first|(refine callA cx (IS) ?_;(conv=>whnf))|(refine callA cx (M) ?_;(conv=>whnf))|(refine callB cx (C) ?_;(conv=>whnf)))|((with_reducible refine QAsk.id ?_);first|(refine askS (N) (by repeat first|exact HTake.nil|(apply HTake.cons;focus (repeat first|exact HPick.hit))) ?_ ?_;focus (intro h;first|exact rfl)))|((with_reducible refine DrawReg.id ?_);refine drawQ' cx (by decide +kernel) rfl ?_)|(refine newN (fun r hr=>?_);simp only [keys,List.nil_append,List.cons_append,List.map_cons,List.map_nil,List.mem_cons,List.not_mem_nil,not_or,or_false,not_false_eq_true] at hr)|((with_reducible refine BodyR.id ?_);first|refine BodyR.pan ?_)
      refine Fin.mk ?_
      refine ⟨WeakerE.refl _,Subp.tk⟩
     |ok x=>
      obtain ⟨x,j⟩:=x
      have C:ToOwn cx.P 56 [.ptr r 0] [(r,rd l (i+1:Nat) d 0)] 5 ((x.flat 0).map encN) [(r,rd l j d 0)]:=C
      have hj:=(pE_facts wt f _ d (i+1) x j hi1 hb).1
      have h:(bindR (if isT l j (tc 59)=true then okR () (j+1) else errR 4 j d) fun _ m=>okR (SD.mk 1 n noS (x.flat 0) [] [] []) m)=some res:=h
      generalize x.flat 0=xf at *
      cases b2:isT l j (tc 59) with
      |true=>
       rw [b2] at h
       cases h
       have E:=fun rt=>ended_ok r l wt j d hj b2 1 n ⟨#[]⟩ (.list (.own rt 0) 5 (xf.map encN)) (.v (.slice none 0 0)) (.v (.slice none 0 0)) (.v (.slice none 0 0)) ⟨rfl,rfl,rfl,rfl⟩
       show To _ _ _ (.ret (encSD (.mk 1 n noS xf [] [] []))) _
       rw [encSD0]
       clear IH
       unfold rdS rd at *
       try unfold encS7 at *
       try unfold stV at *
       try unfold noS at *
       rw [k1] at N
       refine HCalls.to (sem_calls' cx (fn:=Tryz.f48) rfl rfl rfl rfl ?_)
       repeat' first|(rw [g];(conv=>arg 7;whnf))|(with_reducible first|refine DStp.rwB (hs) ?_)|refine Ops.tag rfl ?_|(refine OpsT.go ?_;(conv=>arg 7;whnf))|refine Stp.pure rfl ?_|((with_reducible refine PutK.isSet ?_);refine PutK.set (by repeat first|exact HsetIs.hit|apply HsetIs.miss (by first|(apply Ne.symm;assumption)|omega)) ?_)|refine PutK.mk' rfl ?_|refine Ops.nil ?_|(refine DOps.cons rfl rfl ?_;(conv=>arg 7;whnf))|(with_reducible first|refine DStp.andT ?_|refine DStp.andF ?_)|((with_reducible refine DStp.isSum ?_);refine DStp.sum ?_)|((with_reducible refine DStp.isEq ?_);first|refine DStp.eqT ?_)|refine DStp.pure rfl ?_|refine PutD.mk' rfl ?_|refine DOps.nil rfl ?_|((with_reducible refine Look.id ?_);refine Look.auto ?_ (by repeat first|exact HGet.hit|apply HGet.miss (by first|(apply Ne.symm;assumption)|omega));try (conv=>arg 7;whnf))|((with_reducible refine Side.id ?_);first|refine Side.auto ?_)|((with_reducible refine Br.id ?_);first|(with_reducible first|refine br_false rfl ?_))|((with_reducible refine SemWp.id ?_);first|refine sem_seq ?_|refine sem_region rfl ?_|refine sem_cond rfl ?_|refine sem_ret ?_|refine sem_skip ?_|refine sem_draw ?_)|((with_reducible refine qThen.id ?_);first|refine qThen.go ?_)|refine Stp.look ?_|refine Stp.call ?_|refine Stp.eff ?_|refine DStp.valS ?_|refine DStp.valSC ?_|refine DStp.look ?_|refine DStp.call ?_|((with_reducible refine CallWp.id ?_);first|(refine callA cx (IS) ?_;(conv=>whnf))|(refine callA cx (M) ?_;(conv=>whnf))|(refine callTO cx (C) (by repeat first|exact HTake.nil|(apply HTake.cons;focus (repeat first|exact HPick.hit))) (fun rt hrt=>?_);simp only [keys,List.nil_append,List.cons_append,List.map_cons,List.map_nil,List.mem_cons,List.not_mem_nil,not_or,or_false,not_false_eq_true] at hrt;(conv=>whnf))|(refine callA cx (E rt) ?_;(conv=>whnf)))|((with_reducible refine QAsk.id ?_);first|(refine askS (N) (by repeat first|exact HTake.nil|(apply HTake.cons;focus (repeat first|exact HPick.hit))) ?_ ?_;focus (intro h;first|exact rfl)))|((with_reducible refine DrawReg.id ?_);refine drawQ' cx (by decide +kernel) rfl ?_)|(refine newN (fun r hr=>?_);simp only [keys,List.nil_append,List.cons_append,List.map_cons,List.map_nil,List.mem_cons,List.not_mem_nil,not_or,or_false,not_false_eq_true] at hr)|((with_reducible refine BodyR.id ?_);first|refine BodyR.ret ?_)|((with_reducible refine ResG.id ?_);first|refine ResG.cell rfl ?_|refine ResG.nil ?_)|((with_reducible refine LoadIs.id ?_);first|refine LoadIs.agg (by repeat first|exact HGet.hit|apply HGet.miss (by first|(apply Ne.symm;assumption)|omega)) rfl rfl rfl ?_)|((with_reducible refine Upd.id ?_);first|(refine Upd.lit rfl ?_;(conv=>whnf)))
       refine Fin.mk ?_
       refine ⟨(by refine WeakerE.ret (Weaker.agg ?_);(repeat first|exact WeakerC.nil|refine WeakerC.cons ?_ rfl ?_|exact Weaker.refl _|exact Weaker.nil _|exact Weaker.tok _ _ _)),Subp.tk⟩
      |false=>
       rw [b2] at h
       cases h
       have E:=fun rt=>ended_no r l j d hj b2 1 n ⟨#[]⟩ (.list (.own rt 0) 5 (xf.map encN)) (.v (.slice none 0 0)) (.v (.slice none 0 0)) (.v (.slice none 0 0)) ⟨rfl,rfl,rfl,rfl⟩
       show To _ _ _ (.pan failV) _
       clear IH
       unfold rdS rd at *
       try unfold encS7 at *
       try unfold stV at *
       try unfold noS at *
       rw [k1] at N
       refine HCalls.to (sem_calls' cx (fn:=Tryz.f48) rfl rfl rfl rfl ?_)
       repeat' first|(rw [g];(conv=>arg 7;whnf))|(with_reducible first|refine DStp.rwB (hs) ?_)|refine Ops.tag rfl ?_|(refine OpsT.go ?_;(conv=>arg 7;whnf))|refine Stp.pure rfl ?_|refine PutK.mk' rfl ?_|refine Ops.nil ?_|(refine DOps.cons rfl rfl ?_;(conv=>arg 7;whnf))|(with_reducible first|refine DStp.andT ?_|refine DStp.andF ?_)|((with_reducible refine DStp.isSum ?_);refine DStp.sum ?_)|((with_reducible refine DStp.isEq ?_);first|refine DStp.eqT ?_)|refine DStp.pure rfl ?_|refine PutD.mk' rfl ?_|refine DOps.nil rfl ?_|((with_reducible refine Look.id ?_);refine Look.at ?_;try (conv=>arg 7;whnf))|((with_reducible refine Side.id ?_);first|refine Side.auto ?_)|((with_reducible refine Br.id ?_);first|(with_reducible first|refine br_false rfl ?_))|((with_reducible refine SemWp.id ?_);first|refine sem_seq ?_|refine sem_region rfl ?_|refine sem_cond rfl ?_|refine sem_skip ?_|refine sem_draw ?_)|((with_reducible refine qThen.id ?_);first|refine qThen.go ?_)|refine Stp.call ?_|refine Stp.eff ?_|refine DStp.valS ?_|refine DStp.valSC ?_|refine DStp.look ?_|refine DStp.call ?_|((with_reducible refine CallWp.id ?_);first|(refine callA cx (IS) ?_;(conv=>whnf))|(refine callA cx (M) ?_;(conv=>whnf))|(refine callTO cx (C) (by repeat first|exact HTake.nil|(apply HTake.cons;focus (repeat first|exact HPick.hit))) (fun rt hrt=>?_);simp only [keys,List.nil_append,List.cons_append,List.map_cons,List.map_nil,List.mem_cons,List.not_mem_nil,not_or,or_false,not_false_eq_true] at hrt;(conv=>whnf))|(refine callB cx (E rt) ?_;(conv=>whnf)))|((with_reducible refine QAsk.id ?_);first|(refine askS (N) (by repeat first|exact HTake.nil|(apply HTake.cons;focus (repeat first|exact HPick.hit))) ?_ ?_;focus (intro h;first|exact rfl)))|((with_reducible refine DrawReg.id ?_);refine drawQ' cx (by decide +kernel) rfl ?_)|(refine newN (fun r hr=>?_);simp only [keys,List.nil_append,List.cons_append,List.map_cons,List.map_nil,List.mem_cons,List.not_mem_nil,not_or,or_false,not_false_eq_true] at hr)|((with_reducible refine BodyR.id ?_);first|refine BodyR.pan ?_)
       refine Fin.mk ?_
       refine ⟨WeakerE.refl _,Subp.tk⟩
   |true=>
    rw [if_pos (by simp [k1,ho])] at h
    unfold isOpen at ho
    have k4:(tk l (i+2)).kind=4:=eq_of_beq (Bool.and_eq_true_iff.1 ho).1
    have hs:strEq (tk l (i+2)).text ⟨#[40]⟩=true:=(Bool.and_eq_true_iff.1 ho).2
    rw [k4] at g
    clear ho
    rw [pCall_al] at h
    generalize ht:(tk l (i+1)).text=t at *
    have h:ended l d (bindR (pAl l f d (i+2)) fun a m=>okR (.mk 8 n t [] a [] []) m)=some res:=h
    cases hb:pAl l f d (i+2) with
    |none=>rw [hb] at h;cases h
    |some r1=>
    rw [hb] at h
    cases r1 with
    |error x=>
     obtain ⟨c,j,d'⟩:=x
     cases h
     have C:=callF_er r l wf (i+2:Nat) d hi2 h0 h1 n t f c j d' hb
     show To _ _ _ (.pan failV) _
     clear IH
     unfold rdS rd at *
     try unfold encS7 at *
     try unfold noS at *
     rw [k1] at N
     refine HCalls.to (sem_calls' cx (fn:=Tryz.f48) rfl rfl rfl rfl ?_)
     repeat' first|(rw [g];(conv=>arg 7;whnf))|(with_reducible first|refine DStp.rwB (hs) ?_)|refine Ops.tag rfl ?_|(refine OpsT.go ?_;(conv=>arg 7;whnf))|refine Stp.pure rfl ?_|refine PutK.mk' rfl ?_|refine Ops.nil ?_|(refine DOps.cons rfl rfl ?_;(conv=>arg 7;whnf))|(with_reducible first|refine DStp.andT ?_)|((with_reducible refine DStp.isSum ?_);refine DStp.sum ?_)|((with_reducible refine DStp.isEq ?_);first|refine DStp.eqT ?_)|refine DStp.pure rfl ?_|refine PutD.mk' rfl ?_|refine DOps.nil rfl ?_|((with_reducible refine Look.id ?_);refine Look.at ?_;try (conv=>arg 7;whnf))|((with_reducible refine Side.id ?_);first|refine Side.auto ?_)|((with_reducible refine Br.id ?_);first|(with_reducible first|refine br_true rfl ?_|refine br_false rfl ?_))|((with_reducible refine SemWp.id ?_);first|refine sem_seq ?_|refine sem_region rfl ?_|refine sem_cond rfl ?_|refine sem_skip ?_|refine sem_draw ?_)|((with_reducible refine qThen.id ?_);first|refine qThen.go ?_)|refine Stp.call ?_|refine Stp.eff ?_|refine DStp.valS ?_|refine DStp.valSC ?_|refine DStp.look ?_|refine DStp.call ?_|((with_reducible refine CallWp.id ?_);first|(refine callA cx (IS) ?_;(conv=>whnf))|(refine callA cx (M) ?_;(conv=>whnf))|(refine callA cx (NM) ?_;(conv=>whnf))|(refine callB cx (C) ?_;(conv=>whnf)))|((with_reducible refine QAsk.id ?_);first|(refine askS (N) (by repeat first|exact HTake.nil|(apply HTake.cons;focus (repeat first|exact HPick.hit))) ?_ ?_;focus (intro h;first|exact rfl)))|((with_reducible refine DrawReg.id ?_);refine drawQ' cx (by decide +kernel) rfl ?_)|(refine newN (fun r hr=>?_);simp only [keys,List.nil_append,List.cons_append,List.map_cons,List.map_nil,List.mem_cons,List.not_mem_nil,not_or,or_false,not_false_eq_true] at hr)|((with_reducible refine BodyR.id ?_);first|refine BodyR.pan ?_)
     refine Fin.mk ?_
     refine ⟨WeakerE.refl _,Subp.tk⟩
    |ok x=>
     obtain ⟨a,j⟩:=x
     have C:=callF_ok r l wf (i+2:Nat) d hi2 h0 h1 n t f a j hb
     have hj:=(pAl_facts wt hi2 hb).1
     have h:(bindR (if isT l j (tc 59)=true then okR () (j+1) else errR 4 j d) fun _ m=>okR (SD.mk 8 n t [] a [] []) m)=some res:=h
     cases b2:isT l j (tc 59) with
     |true=>
      rw [b2] at h
      cases h
      have E:=ended_ok r l wt j d hj b2 8 n t (LNs []) (LLNs a) (.list .no 7 []) (.list .no 7 []) ⟨rfl,rfl,rfl,rfl⟩
      show To _ _ _ (.ret (encSD (.mk 8 n t [] a [] []))) _
      rw [encSD0]
      clear IH
      unfold rdS rd at *
      try unfold encS7 at *
      try unfold stV at *
      try unfold noS at *
      rw [k1] at N
      refine HCalls.to (sem_calls' cx (fn:=Tryz.f48) rfl rfl rfl rfl ?_)
      repeat' first|(rw [g];(conv=>arg 7;whnf))|(with_reducible first|refine DStp.rwB (hs) ?_)|refine Ops.tag rfl ?_|(refine OpsT.go ?_;(conv=>arg 7;whnf))|refine Stp.pure rfl ?_|((with_reducible refine PutK.isSet ?_);refine PutK.set (by repeat first|exact HsetIs.hit|apply HsetIs.miss (by first|(apply Ne.symm;assumption))) ?_)|refine PutK.mk' rfl ?_|refine Ops.nil ?_|(refine DOps.cons rfl rfl ?_;(conv=>arg 7;whnf))|(with_reducible first|refine DStp.andT ?_)|((with_reducible refine DStp.isSum ?_);refine DStp.sum ?_)|((with_reducible refine DStp.isEq ?_);first|refine DStp.eqT ?_)|refine DStp.pure rfl ?_|refine PutD.mk' rfl ?_|refine DOps.nil rfl ?_|((with_reducible refine Look.id ?_);refine Look.auto ?_ (by repeat first|exact HGet.hit|apply HGet.miss (by first|(apply Ne.symm;assumption)));try (conv=>arg 7;whnf))|((with_reducible refine Side.id ?_);first|refine Side.auto ?_)|((with_reducible refine Br.id ?_);first|(with_reducible first|refine br_true rfl ?_|refine br_false rfl ?_))|((with_reducible refine SemWp.id ?_);first|refine sem_seq ?_|refine sem_region rfl ?_|refine sem_cond rfl ?_|refine sem_ret ?_|refine sem_skip ?_|refine sem_draw ?_)|((with_reducible refine qThen.id ?_);first|refine qThen.go ?_|refine qThen.ret ?_)|refine Stp.look ?_|refine Stp.call ?_|refine Stp.eff ?_|refine DStp.valS ?_|refine DStp.valSC ?_|refine DStp.look ?_|refine DStp.call ?_|((with_reducible refine CallWp.id ?_);first|(refine callA cx (IS) ?_;(conv=>whnf))|(refine callA cx (M) ?_;(conv=>whnf))|(refine callA cx (NM) ?_;(conv=>whnf))|(refine callA cx (C) ?_;(conv=>whnf))|(refine callA cx (E) ?_;(conv=>whnf)))|((with_reducible refine QAsk.id ?_);first|(refine askS (N) (by repeat first|exact HTake.nil|(apply HTake.cons;focus (repeat first|exact HPick.hit))) ?_ ?_;focus (intro h;first|exact rfl)))|((with_reducible refine DrawReg.id ?_);refine drawQ' cx (by decide +kernel) rfl ?_)|(refine newN (fun r hr=>?_);simp only [keys,List.nil_append,List.cons_append,List.map_cons,List.map_nil,List.mem_cons,List.not_mem_nil,not_or,or_false,not_false_eq_true] at hr)|((with_reducible refine BodyR.id ?_);first|refine BodyR.ret ?_)|((with_reducible refine ResG.id ?_);first|refine ResG.cell rfl ?_|refine ResG.nil ?_)|((with_reducible refine LoadIs.id ?_);first|refine LoadIs.agg (by repeat first|exact HGet.hit|apply HGet.miss (by first|(apply Ne.symm;assumption))) rfl rfl rfl ?_)|((with_reducible refine Upd.id ?_);first|(refine Upd.lit rfl ?_;(conv=>whnf)))
      refine Fin.mk ?_
      refine ⟨WeakerE.refl _,Subp.tk⟩
     |false=>
      rw [b2] at h
      cases h
      have E:=ended_no r l j d hj b2 8 n t (LNs []) (LLNs a) (.list .no 7 []) (.list .no 7 []) ⟨rfl,rfl,rfl,rfl⟩
      show To _ _ _ (.pan failV) _
      clear IH
      unfold rdS rd at *
      try unfold encS7 at *
      try unfold stV at *
      try unfold noS at *
      rw [k1] at N
      refine HCalls.to (sem_calls' cx (fn:=Tryz.f48) rfl rfl rfl rfl ?_)
      repeat' first|(rw [g];(conv=>arg 7;whnf))|(with_reducible first|refine DStp.rwB (hs) ?_)|refine Ops.tag rfl ?_|(refine OpsT.go ?_;(conv=>arg 7;whnf))|refine Stp.pure rfl ?_|refine PutK.mk' rfl ?_|refine Ops.nil ?_|(refine DOps.cons rfl rfl ?_;(conv=>arg 7;whnf))|(with_reducible first|refine DStp.andT ?_)|((with_reducible refine DStp.isSum ?_);refine DStp.sum ?_)|((with_reducible refine DStp.isEq ?_);first|refine DStp.eqT ?_)|refine DStp.pure rfl ?_|refine PutD.mk' rfl ?_|refine DOps.nil rfl ?_|((with_reducible refine Look.id ?_);refine Look.at ?_;try (conv=>arg 7;whnf))|((with_reducible refine Side.id ?_);first|refine Side.auto ?_)|((with_reducible refine Br.id ?_);first|(with_reducible first|refine br_true rfl ?_|refine br_false rfl ?_))|((with_reducible refine SemWp.id ?_);first|refine sem_seq ?_|refine sem_region rfl ?_|refine sem_cond rfl ?_|refine sem_skip ?_|refine sem_draw ?_)|((with_reducible refine qThen.id ?_);first|refine qThen.go ?_)|refine Stp.call ?_|refine Stp.eff ?_|refine DStp.valS ?_|refine DStp.valSC ?_|refine DStp.look ?_|refine DStp.call ?_|((with_reducible refine CallWp.id ?_);first|(refine callA cx (IS) ?_;(conv=>whnf))|(refine callA cx (M) ?_;(conv=>whnf))|(refine callA cx (NM) ?_;(conv=>whnf))|(refine callA cx (C) ?_;(conv=>whnf))|(refine callB cx (E) ?_;(conv=>whnf)))|((with_reducible refine QAsk.id ?_);first|(refine askS (N) (by repeat first|exact HTake.nil|(apply HTake.cons;focus (repeat first|exact HPick.hit))) ?_ ?_;focus (intro h;first|exact rfl)))|((with_reducible refine DrawReg.id ?_);refine drawQ' cx (by decide +kernel) rfl ?_)|(refine newN (fun r hr=>?_);simp only [keys,List.nil_append,List.cons_append,List.map_cons,List.map_nil,List.mem_cons,List.not_mem_nil,not_or,or_false,not_false_eq_true] at hr)|((with_reducible refine BodyR.id ?_);first|refine BodyR.pan ?_)
      refine Fin.mk ?_
      refine ⟨WeakerE.refl _,Subp.tk⟩
end Go.Proofs.Hk

import Derived.Test.YtcihapdaapkdjaaGreatDoorQ15d
import Derived.Test.YtcihapdaapkdjaaGreatDoorH41
set_option linter.unusedSimpArgs false
set_option linter.unusedVariables false
set_option maxRecDepth 4000
namespace Go.Proofs.Hk
open Go Go.Proofs
set_option maxHeartbeats 4000000 in
theorem st_if (l:List Tk) (wf:WfN l) (n:Nat) (IH:AllS l n) (r:Nat) (d:Int) (h0:0≤d) (h1:d≤50) (i:Nat) (hi:i < l.length) (k0:¬ (tk l i).kind=1) (aHavoc:isT l i kHavoc=false) (aAssume:isT l i kAssume=false) (aAssert:isT l i kAssert=false) (aSkip:isT l i kSkip=false) (ax:isT l i kIf=true) (res) (h:(bindR (pE l n .cond d (i+1)) fun e j=>bindR (pS l n .block d j) fun b m=>
   if isT l m kElse=true then bindR (pS l n .block d (m+1)) fun b2 m2=>okR [.mk 5 noS noS (e.flat 0) [] b b2] m2 else okR [.mk 5 noS noS (e.flat 0) [] b []] m)=some res):goalT 44 [.ptr r 0] (rdS l r i d 0) d (rdS l r) res:=by
 have wt:=wf.toWfT
 have wl:=wt.len
 have AE:=allE l wf n
 have I:=now_spec r l i d 0 hi
 have hi1:=wt.more i hi (isT_kind ax)
 have NHavoc:=may_no r l i d 0 kHavoc hi aHavoc
 have NAssume:=may_no r l i d 0 kAssume hi aAssume
 have NAssert:=may_no r l i d 0 kAssert hi aAssert
 have NSkip:=may_no r l i d 0 kSkip hi aSkip
 have Y:=may_yes r l i d 0 kIf wt hi ax
 cases hb:pE l n .cond d (i+1) with
 |none=>rw [hb] at h;cases h
 |some r1=>
 rw [hb] at h
 have C:=AE.cond n (Nat.le_refl _) r d (i+1) r1 hi1 h0 h1 hb
 cases r1 with
 |error x=>
  obtain ⟨c,j,d'⟩:=x
  cases h
  have C:To 50 [.ptr r 0] [(r,rd l (i+1:Nat) d 0)] (.pan failV) [(r,rd l j d' c)]:=C
  show To _ _ _ (.pan failV) _
  clear IH AE
  unfold rdS rd at *
  try unfold encS7 at *
  try unfold stV at *
  try unfold noS at *
  generalize (tk l i).kind=kk at *
  generalize (tk l i).text=t at *
  generalize ((tk l i).pos:Int)=p at *
  refine HCalls.to (sem_calls' cx (fn:=Tryz.f44) rfl rfl rfl rfl ?_)
  repeat' first|refine Ops.tag rfl ?_|(refine OpsT.go ?_;(conv=>arg 7;whnf))|((with_reducible refine Stp.isEq ?_);first|refine Stp.eqF ?_)|refine Stp.pure rfl ?_|refine PutK.mk' rfl ?_|refine Ops.nil ?_|((with_reducible refine Side.id ?_);first|refine Side.auto ?_)|((with_reducible refine Br.id ?_);first|(with_reducible first|refine br_true rfl ?_|refine br_false rfl ?_))|((with_reducible refine SemWp.id ?_);first|refine sem_seq ?_|refine sem_region rfl ?_|refine sem_cond rfl ?_|refine sem_block ?_)|((with_reducible refine qThen.id ?_);first|refine qThen.go ?_)|refine Stp.call ?_|refine Stp.eff ?_|((with_reducible refine CallWp.id ?_);first|(refine callA cx (I) ?_;(conv=>whnf))|(refine callA cx (NHavoc) ?_;(conv=>whnf))|(refine callA cx (NAssume) ?_;(conv=>whnf))|(refine callA cx (NAssert) ?_;(conv=>whnf))|(refine callA cx (NSkip) ?_;(conv=>whnf))|(refine callA cx (Y) ?_;(conv=>whnf))|(refine callB cx (C) ?_;(conv=>whnf)))|(refine newN (fun r hr=>?_);simp only [keys,List.nil_append,List.cons_append,List.map_cons,List.map_nil,List.mem_cons,List.not_mem_nil,not_or,or_false,not_false_eq_true] at hr)|((with_reducible refine BodyR.id ?_);first|refine BodyR.pan ?_)
  refine Fin.mk ?_
  refine ⟨WeakerE.refl _,Subp.tk⟩
 |ok x=>
  obtain ⟨x,j⟩:=x
  have C:ToOwn cx.P 50 [.ptr r 0] [(r,rd l (i+1:Nat) d 0)] 5 ((x.flat 0).map encN) [(r,rd l j d 0)]:=C
  have hj:=(pE_facts wt n _ d (i+1) x j hi1 hb).1
  have h:(bindR (pS l n .block d j) fun b m=>
   if isT l m kElse=true then bindR (pS l n .block d (m+1)) fun b2 m2=>okR [.mk 5 noS noS (x.flat 0) [] b b2] m2 else okR [.mk 5 noS noS (x.flat 0) [] b []] m)=some res:=h
  generalize x.flat 0=xf at *
  cases hbA:pS l n .block d j with
  |none=>rw [hbA] at h;cases h
  |some r1=>
  rw [hbA] at h
  have BA:=IH.block n (Nat.le_refl _) r d j r1 hj h0 h1 hbA
  cases r1 with
  |error x=>
   obtain ⟨c,j',d'⟩:=x
   cases h
   have BA:To 51 [.ptr r 0] [(r,rd l (j:Nat) d 0)] (.pan failV) [(r,rd l j' d' c)]:=BA
   show To _ _ _ (.pan failV) _
   clear IH AE
   unfold rdS rd at *
   try unfold encS7 at *
   try unfold stV at *
   try unfold noS at *
   generalize (tk l i).kind=kk at *
   generalize (tk l i).text=t at *
   generalize ((tk l i).pos:Int)=p at *
   refine HCalls.to (sem_calls' cx (fn:=Tryz.f44) rfl rfl rfl rfl ?_)
   repeat' first|refine Ops.tag rfl ?_|(refine OpsT.go ?_;(conv=>arg 7;whnf))|((with_reducible refine Stp.isEq ?_);first|refine Stp.eqF ?_)|refine Stp.pure rfl ?_|refine PutK.mk' rfl ?_|refine Ops.nil ?_|((with_reducible refine Side.id ?_);first|refine Side.auto ?_)|((with_reducible refine Br.id ?_);first|(with_reducible first|refine br_true rfl ?_|refine br_false rfl ?_))|((with_reducible refine SemWp.id ?_);first|refine sem_seq ?_|refine sem_region rfl ?_|refine sem_cond rfl ?_|refine sem_block ?_)|((with_reducible refine qThen.id ?_);first|refine qThen.go ?_)|refine Stp.call ?_|refine Stp.eff ?_|((with_reducible refine CallWp.id ?_);first|(refine callA cx (I) ?_;(conv=>whnf))|(refine callA cx (NHavoc) ?_;(conv=>whnf))|(refine callA cx (NAssume) ?_;(conv=>whnf))|(refine callA cx (NAssert) ?_;(conv=>whnf))|(refine callA cx (NSkip) ?_;(conv=>whnf))|(refine callA cx (Y) ?_;(conv=>whnf))|(refine callTO cx (C) (by repeat first|exact HTake.nil|(apply HTake.cons;focus (repeat first|exact HPick.hit))) (fun rt hrt=>?_);simp only [keys,List.nil_append,List.cons_append,List.map_cons,List.map_nil,List.mem_cons,List.not_mem_nil,not_or,or_false,not_false_eq_true] at hrt;(conv=>whnf))|(refine callB cx (BA) ?_;(conv=>whnf)))|(refine newN (fun r hr=>?_);simp only [keys,List.nil_append,List.cons_append,List.map_cons,List.map_nil,List.mem_cons,List.not_mem_nil,not_or,or_false,not_false_eq_true] at hr)|((with_reducible refine BodyR.id ?_);first|refine BodyR.pan ?_)
   refine Fin.mk ?_
   refine ⟨WeakerE.refl _,Subp.tk⟩
  |ok x=>
   obtain ⟨bA,jA⟩:=x
   have BA:To 51 [.ptr r 0] [(r,rd l (j:Nat) d 0)] (.ret (LSDs bA)) [(r,rd l jA d 0)]:=BA
   have hjA:=(pS_facts wt n _ d _ bA jA hj hbA).1
   have h:(if isT l jA kElse=true then bindR (pS l n .block d (jA+1)) fun b2 m2=>okR [.mk 5 noS noS xf [] bA b2] m2 else okR [.mk 5 noS noS xf [] bA []] jA)=some res:=h
   cases b3:isT l jA kElse with
   |false=>
    rw [b3] at h
    cases h
    have YE:=may_no r l jA d 0 kElse hjA b3
    refine ⟨.mk 5 noS noS xf [] bA [],rfl,?_⟩
    rw [encSDm]
    clear IH AE
    unfold rdS rd at *
    try unfold encS7 at *
    try unfold stV at *
    try unfold noS at *
    generalize (tk l i).kind=kk at *
    generalize (tk l i).text=t at *
    generalize ((tk l i).pos:Int)=p at *
    refine HCalls.to (sem_calls' cx (fn:=Tryz.f44) rfl rfl rfl rfl ?_)
    repeat' first|refine Ops.tag rfl ?_|(refine OpsT.go ?_;(conv=>arg 7;whnf))|((with_reducible refine Stp.isEq ?_);first|refine Stp.eqF ?_)|refine Stp.pure rfl ?_|((with_reducible refine PutK.isSet ?_);refine PutK.set (by repeat first|exact HsetIs.hit|apply HsetIs.miss (by first|(apply Ne.symm;assumption)|omega)) ?_)|refine PutK.mk' rfl ?_|refine Ops.nil ?_|((with_reducible refine Look.id ?_);refine Look.auto ?_ (by repeat first|exact HGet.hit|apply HGet.miss (by first|(apply Ne.symm;assumption)|omega));try (conv=>arg 7;whnf))|((with_reducible refine Side.id ?_);first|refine Side.auto ?_)|((with_reducible refine Br.id ?_);first|(with_reducible first|refine br_true rfl ?_|refine br_false rfl ?_))|((with_reducible refine SemWp.id ?_);first|refine sem_seq ?_|refine sem_region rfl ?_|refine sem_cond rfl ?_|refine sem_block ?_|refine sem_ret ?_|refine sem_skip ?_)|((with_reducible refine qThen.id ?_);first|refine qThen.go ?_|refine qThen.ret ?_)|((with_reducible refine hinBlock.id ?_);first|refine hinBlock.ret ?_)|refine Stp.look ?_|refine Stp.call ?_|refine Stp.eff ?_|((with_reducible refine CallWp.id ?_);first|(refine callA cx (I) ?_;(conv=>whnf))|(refine callA cx (NHavoc) ?_;(conv=>whnf))|(refine callA cx (NAssume) ?_;(conv=>whnf))|(refine callA cx (NAssert) ?_;(conv=>whnf))|(refine callA cx (NSkip) ?_;(conv=>whnf))|(refine callA cx (Y) ?_;(conv=>whnf))|(refine callTO cx (C) (by repeat first|exact HTake.nil|(apply HTake.cons;focus (repeat first|exact HPick.hit))) (fun rt hrt=>?_);simp only [keys,List.nil_append,List.cons_append,List.map_cons,List.map_nil,List.mem_cons,List.not_mem_nil,not_or,or_false,not_false_eq_true] at hrt;(conv=>whnf))|(refine callA cx (BA) ?_;(conv=>whnf))|(refine callA cx (YE) ?_;(conv=>whnf)))|(refine newN (fun r hr=>?_);simp only [keys,List.nil_append,List.cons_append,List.map_cons,List.map_nil,List.mem_cons,List.not_mem_nil,not_or,or_false,not_false_eq_true] at hr)|((with_reducible refine BodyR.id ?_);first|refine BodyR.ret ?_)|((with_reducible refine ResG.id ?_);first|refine ResG.cell rfl ?_|refine ResG.nil ?_)|((with_reducible refine LoadIs.id ?_);first|refine LoadIs.agg (by repeat first|exact HGet.hit|apply HGet.miss (by first|(apply Ne.symm;assumption)|omega)) rfl rfl rfl ?_)|((with_reducible refine Upd.id ?_);first|(refine Upd.lit rfl ?_;(conv=>whnf)))
    refine Fin.mk ?_
    refine ⟨(by refine WeakerE.ret (Weaker.agg ?_);(repeat first|exact WeakerC.nil|refine WeakerC.cons ?_ rfl ?_|exact Weaker.refl _|exact Weaker.nil _|exact Weaker.tok _ _ _)),Subp.tk⟩
   |true=>
    rw [b3] at h
    have YE:=may_yes r l jA d 0 kElse wt hjA b3
    have hj2:=wt.more jA hjA (isT_kind b3)
    have h:(bindR (pS l n .block d (jA+1)) fun b2 m2=>okR [SD.mk 5 noS noS xf [] bA b2] m2)=some res:=h
    cases hbB:pS l n .block d (jA+1) with
    |none=>rw [hbB] at h;cases h
    |some r1=>
    rw [hbB] at h
    have BB:=IH.block n (Nat.le_refl _) r d (jA+1) r1 hj2 h0 h1 hbB
    cases r1 with
    |error x=>
     obtain ⟨c,j',d'⟩:=x
     cases h
     have BB:To 51 [.ptr r 0] [(r,rd l ((jA+1):Nat) d 0)] (.pan failV) [(r,rd l j' d' c)]:=BB
     show To _ _ _ (.pan failV) _
     clear IH AE
     unfold rdS rd at *
     try unfold encS7 at *
     try unfold stV at *
     try unfold noS at *
     generalize (tk l i).kind=kk at *
     generalize (tk l i).text=t at *
     generalize ((tk l i).pos:Int)=p at *
     refine HCalls.to (sem_calls' cx (fn:=Tryz.f44) rfl rfl rfl rfl ?_)
     repeat' first|refine Ops.tag rfl ?_|(refine OpsT.go ?_;(conv=>arg 7;whnf))|((with_reducible refine Stp.isEq ?_);first|refine Stp.eqF ?_)|refine Stp.pure rfl ?_|((with_reducible refine PutK.isSet ?_);refine PutK.st ?_)|refine PutK.mk' rfl ?_|refine Ops.nil ?_|((with_reducible refine Look.id ?_);refine Look.at ?_;try (conv=>arg 7;whnf))|((with_reducible refine Side.id ?_);first|refine Side.auto ?_)|((with_reducible refine Br.id ?_);first|(with_reducible first|refine br_true rfl ?_|refine br_false rfl ?_))|((with_reducible refine SemWp.id ?_);first|refine sem_seq ?_|refine sem_region rfl ?_|refine sem_cond rfl ?_|refine sem_block ?_)|((with_reducible refine qThen.id ?_);first|refine qThen.go ?_)|refine Stp.look ?_|refine Stp.call ?_|refine Stp.eff ?_|((with_reducible refine CallWp.id ?_);first|(refine callA cx (I) ?_;(conv=>whnf))|(refine callA cx (NHavoc) ?_;(conv=>whnf))|(refine callA cx (NAssume) ?_;(conv=>whnf))|(refine callA cx (NAssert) ?_;(conv=>whnf))|(refine callA cx (NSkip) ?_;(conv=>whnf))|(refine callA cx (Y) ?_;(conv=>whnf))|(refine callTO cx (C) (by repeat first|exact HTake.nil|(apply HTake.cons;focus (repeat first|exact HPick.hit))) (fun rt hrt=>?_);simp only [keys,List.nil_append,List.cons_append,List.map_cons,List.map_nil,List.mem_cons,List.not_mem_nil,not_or,or_false,not_false_eq_true] at hrt;(conv=>whnf))|(refine callA cx (BA) ?_;(conv=>whnf))|(refine callA cx (YE) ?_;(conv=>whnf))|(refine callB cx (BB) ?_;(conv=>whnf)))|(refine newN (fun r hr=>?_);simp only [keys,List.nil_append,List.cons_append,List.map_cons,List.map_nil,List.mem_cons,List.not_mem_nil,not_or,or_false,not_false_eq_true] at hr)|((with_reducible refine BodyR.id ?_);first|refine BodyR.pan ?_)|((with_reducible refine Upd.id ?_);first|(refine Upd.lit rfl ?_;(conv=>whnf)))
     refine Fin.mk ?_
     refine ⟨WeakerE.refl _,Subp.tk⟩
    |ok x=>
     obtain ⟨bB,jB⟩:=x
     have BB:To 51 [.ptr r 0] [(r,rd l ((jA+1):Nat) d 0)] (.ret (LSDs bB)) [(r,rd l jB d 0)]:=BB
     have hjB:=(pS_facts wt n _ d _ bB jB hj2 hbB).1
     cases h
     refine ⟨.mk 5 noS noS xf [] bA bB,rfl,?_⟩
     rw [encSDm]
     clear IH AE
     unfold rdS rd at *
     try unfold encS7 at *
     try unfold stV at *
     try unfold noS at *
     generalize (tk l i).kind=kk at *
     generalize (tk l i).text=t at *
     generalize ((tk l i).pos:Int)=p at *
     refine HCalls.to (sem_calls' cx (fn:=Tryz.f44) rfl rfl rfl rfl ?_)
     repeat' first|refine Ops.tag rfl ?_|(refine OpsT.go ?_;(conv=>arg 7;whnf))|((with_reducible refine Stp.isEq ?_);first|refine Stp.eqF ?_)|refine Stp.pure rfl ?_|((with_reducible refine PutK.isSet ?_);refine PutK.set (by repeat first|exact HsetIs.hit|apply HsetIs.miss (by first|(apply Ne.symm;assumption)|omega)) ?_)|refine PutK.mk' rfl ?_|refine Ops.nil ?_|((with_reducible refine Look.id ?_);refine Look.auto ?_ (by repeat first|exact HGet.hit|apply HGet.miss (by first|(apply Ne.symm;assumption)|omega));try (conv=>arg 7;whnf))|((with_reducible refine Side.id ?_);first|refine Side.auto ?_)|((with_reducible refine Br.id ?_);first|(with_reducible first|refine br_true rfl ?_|refine br_false rfl ?_))|((with_reducible refine SemWp.id ?_);first|refine sem_seq ?_|refine sem_region rfl ?_|refine sem_cond rfl ?_|refine sem_block ?_|refine sem_ret ?_)|((with_reducible refine qThen.id ?_);first|refine qThen.go ?_|refine qThen.ret ?_)|((with_reducible refine hinBlock.id ?_);first|refine hinBlock.ret ?_)|refine Stp.look ?_|refine Stp.call ?_|refine Stp.eff ?_|((with_reducible refine CallWp.id ?_);first|(refine callA cx (I) ?_;(conv=>whnf))|(refine callA cx (NHavoc) ?_;(conv=>whnf))|(refine callA cx (NAssume) ?_;(conv=>whnf))|(refine callA cx (NAssert) ?_;(conv=>whnf))|(refine callA cx (NSkip) ?_;(conv=>whnf))|(refine callA cx (Y) ?_;(conv=>whnf))|(refine callTO cx (C) (by repeat first|exact HTake.nil|(apply HTake.cons;focus (repeat first|exact HPick.hit))) (fun rt hrt=>?_);simp only [keys,List.nil_append,List.cons_append,List.map_cons,List.map_nil,List.mem_cons,List.not_mem_nil,not_or,or_false,not_false_eq_true] at hrt;(conv=>whnf))|(refine callA cx (BA) ?_;(conv=>whnf))|(refine callA cx (YE) ?_;(conv=>whnf))|(refine callA cx (BB) ?_;(conv=>whnf)))|(refine newN (fun r hr=>?_);simp only [keys,List.nil_append,List.cons_append,List.map_cons,List.map_nil,List.mem_cons,List.not_mem_nil,not_or,or_false,not_false_eq_true] at hr)|((with_reducible refine BodyR.id ?_);first|refine BodyR.ret ?_)|((with_reducible refine ResG.id ?_);first|refine ResG.cell rfl ?_|refine ResG.nil ?_)|((with_reducible refine LoadIs.id ?_);first|refine LoadIs.agg (by repeat first|exact HGet.hit|apply HGet.miss (by first|(apply Ne.symm;assumption)|omega)) rfl rfl rfl ?_)|((with_reducible refine Upd.id ?_);first|(refine Upd.lit rfl ?_;(conv=>whnf)))
     refine Fin.mk ?_
     refine ⟨(by refine WeakerE.ret (Weaker.agg ?_);(repeat first|exact WeakerC.nil|refine WeakerC.cons ?_ rfl ?_|exact Weaker.refl _|exact Weaker.nil _|exact Weaker.tok _ _ _)),Subp.tk⟩
set_option maxHeartbeats 4000000 in
theorem st_while (l:List Tk) (wf:WfN l) (n:Nat) (IH:AllS l n) (r:Nat) (d:Int) (h0:0≤d) (h1:d≤50) (i:Nat) (hi:i < l.length) (k0:¬ (tk l i).kind=1) (aHavoc:isT l i kHavoc=false) (aAssume:isT l i kAssume=false) (aAssert:isT l i kAssert=false) (aSkip:isT l i kSkip=false) (aIf:isT l i kIf=false) (ax:isT l i kWhile=true) (res) (h:(bindR (pE l n .cond d (i+1)) fun e j=>bindR (pS l n .block d j) fun b m=>okR [.mk 6 noS noS (e.flat 0) [] b []] m)=some res):goalT 44 [.ptr r 0] (rdS l r i d 0) d (rdS l r) res:=by
 have wt:=wf.toWfT
 have wl:=wt.len
 have AE:=allE l wf n
 have I:=now_spec r l i d 0 hi
 have hi1:=wt.more i hi (isT_kind ax)
 have NHavoc:=may_no r l i d 0 kHavoc hi aHavoc
 have NAssume:=may_no r l i d 0 kAssume hi aAssume
 have NAssert:=may_no r l i d 0 kAssert hi aAssert
 have NSkip:=may_no r l i d 0 kSkip hi aSkip
 have NIf:=may_no r l i d 0 kIf hi aIf
 have Y:=may_yes r l i d 0 kWhile wt hi ax
 cases hb:pE l n .cond d (i+1) with
 |none=>rw [hb] at h;cases h
 |some r1=>
 rw [hb] at h
 have C:=AE.cond n (Nat.le_refl _) r d (i+1) r1 hi1 h0 h1 hb
 cases r1 with
 |error x=>
  obtain ⟨c,j,d'⟩:=x
  cases h
  have C:To 50 [.ptr r 0] [(r,rd l (i+1:Nat) d 0)] (.pan failV) [(r,rd l j d' c)]:=C
  show To _ _ _ (.pan failV) _
  clear IH AE
  unfold rdS rd at *
  try unfold encS7 at *
  try unfold stV at *
  try unfold noS at *
  generalize (tk l i).kind=kk at *
  generalize (tk l i).text=t at *
  generalize ((tk l i).pos:Int)=p at *
  refine HCalls.to (sem_calls' cx (fn:=Tryz.f44) rfl rfl rfl rfl ?_)
  repeat' first|refine Ops.tag rfl ?_|(refine OpsT.go ?_;(conv=>arg 7;whnf))|((with_reducible refine Stp.isEq ?_);first|refine Stp.eqF ?_)|refine Stp.pure rfl ?_|refine PutK.mk' rfl ?_|refine Ops.nil ?_|((with_reducible refine Side.id ?_);first|refine Side.auto ?_)|((with_reducible refine Br.id ?_);first|(with_reducible first|refine br_true rfl ?_|refine br_false rfl ?_))|((with_reducible refine SemWp.id ?_);first|refine sem_seq ?_|refine sem_region rfl ?_|refine sem_cond rfl ?_|refine sem_block ?_)|((with_reducible refine qThen.id ?_);first|refine qThen.go ?_)|refine Stp.call ?_|refine Stp.eff ?_|((with_reducible refine CallWp.id ?_);first|(refine callA cx (I) ?_;(conv=>whnf))|(refine callA cx (NHavoc) ?_;(conv=>whnf))|(refine callA cx (NAssume) ?_;(conv=>whnf))|(refine callA cx (NAssert) ?_;(conv=>whnf))|(refine callA cx (NSkip) ?_;(conv=>whnf))|(refine callA cx (NIf) ?_;(conv=>whnf))|(refine callA cx (Y) ?_;(conv=>whnf))|(refine callB cx (C) ?_;(conv=>whnf)))|(refine newN (fun r hr=>?_);simp only [keys,List.nil_append,List.cons_append,List.map_cons,List.map_nil,List.mem_cons,List.not_mem_nil,not_or,or_false,not_false_eq_true] at hr)|((with_reducible refine BodyR.id ?_);first|refine BodyR.pan ?_)
  refine Fin.mk ?_
  refine ⟨WeakerE.refl _,Subp.tk⟩
 |ok x=>
  obtain ⟨x,j⟩:=x
  have C:ToOwn cx.P 50 [.ptr r 0] [(r,rd l (i+1:Nat) d 0)] 5 ((x.flat 0).map encN) [(r,rd l j d 0)]:=C
  have hj:=(pE_facts wt n _ d (i+1) x j hi1 hb).1
  have h:(bindR (pS l n .block d j) fun b m=>okR [.mk 6 noS noS (x.flat 0) [] b []] m)=some res:=h
  generalize x.flat 0=xf at *
  cases hbA:pS l n .block d j with
  |none=>rw [hbA] at h;cases h
  |some r1=>
  rw [hbA] at h
  have BA:=IH.block n (Nat.le_refl _) r d j r1 hj h0 h1 hbA
  cases r1 with
  |error x=>
   obtain ⟨c,j',d'⟩:=x
   cases h
   have BA:To 51 [.ptr r 0] [(r,rd l (j:Nat) d 0)] (.pan failV) [(r,rd l j' d' c)]:=BA
   show To _ _ _ (.pan failV) _
   clear IH AE
   unfold rdS rd at *
   try unfold encS7 at *
   try unfold stV at *
   try unfold noS at *
   generalize (tk l i).kind=kk at *
   generalize (tk l i).text=t at *
   generalize ((tk l i).pos:Int)=p at *
   refine HCalls.to (sem_calls' cx (fn:=Tryz.f44) rfl rfl rfl rfl ?_)
   repeat' first|refine Ops.tag rfl ?_|(refine OpsT.go ?_;(conv=>arg 7;whnf))|((with_reducible refine Stp.isEq ?_);first|refine Stp.eqF ?_)|refine Stp.pure rfl ?_|refine PutK.mk' rfl ?_|refine Ops.nil ?_|((with_reducible refine Side.id ?_);first|refine Side.auto ?_)|((with_reducible refine Br.id ?_);first|(with_reducible first|refine br_true rfl ?_|refine br_false rfl ?_))|((with_reducible refine SemWp.id ?_);first|refine sem_seq ?_|refine sem_region rfl ?_|refine sem_cond rfl ?_|refine sem_block ?_)|((with_reducible refine qThen.id ?_);first|refine qThen.go ?_)|refine Stp.call ?_|refine Stp.eff ?_|((with_reducible refine CallWp.id ?_);first|(refine callA cx (I) ?_;(conv=>whnf))|(refine callA cx (NHavoc) ?_;(conv=>whnf))|(refine callA cx (NAssume) ?_;(conv=>whnf))|(refine callA cx (NAssert) ?_;(conv=>whnf))|(refine callA cx (NSkip) ?_;(conv=>whnf))|(refine callA cx (NIf) ?_;(conv=>whnf))|(refine callA cx (Y) ?_;(conv=>whnf))|(refine callTO cx (C) (by repeat first|exact HTake.nil|(apply HTake.cons;focus (repeat first|exact HPick.hit))) (fun rt hrt=>?_);simp only [keys,List.nil_append,List.cons_append,List.map_cons,List.map_nil,List.mem_cons,List.not_mem_nil,not_or,or_false,not_false_eq_true] at hrt;(conv=>whnf))|(refine callB cx (BA) ?_;(conv=>whnf)))|(refine newN (fun r hr=>?_);simp only [keys,List.nil_append,List.cons_append,List.map_cons,List.map_nil,List.mem_cons,List.not_mem_nil,not_or,or_false,not_false_eq_true] at hr)|((with_reducible refine BodyR.id ?_);first|refine BodyR.pan ?_)
   refine Fin.mk ?_
   refine ⟨WeakerE.refl _,Subp.tk⟩
  |ok x=>
   obtain ⟨bA,jA⟩:=x
   have BA:To 51 [.ptr r 0] [(r,rd l (j:Nat) d 0)] (.ret (LSDs bA)) [(r,rd l jA d 0)]:=BA
   have hjA:=(pS_facts wt n _ d _ bA jA hj hbA).1
   cases h
   refine ⟨.mk 6 noS noS xf [] bA [],rfl,?_⟩
   rw [encSDm]
   clear IH AE
   unfold rdS rd at *
   try unfold encS7 at *
   try unfold stV at *
   try unfold noS at *
   generalize (tk l i).kind=kk at *
   generalize (tk l i).text=t at *
   generalize ((tk l i).pos:Int)=p at *
   refine HCalls.to (sem_calls' cx (fn:=Tryz.f44) rfl rfl rfl rfl ?_)
   repeat' first|refine Ops.tag rfl ?_|(refine OpsT.go ?_;(conv=>arg 7;whnf))|((with_reducible refine Stp.isEq ?_);first|refine Stp.eqF ?_)|refine Stp.pure rfl ?_|((with_reducible refine PutK.isSet ?_);refine PutK.set (by repeat first|exact HsetIs.hit|apply HsetIs.miss (by first|(apply Ne.symm;assumption)|omega)) ?_)|refine PutK.mk' rfl ?_|refine Ops.nil ?_|((with_reducible refine Look.id ?_);refine Look.auto ?_ (by repeat first|exact HGet.hit|apply HGet.miss (by first|(apply Ne.symm;assumption)|omega));try (conv=>arg 7;whnf))|((with_reducible refine Side.id ?_);first|refine Side.auto ?_)|((with_reducible refine Br.id ?_);first|(with_reducible first|refine br_true rfl ?_|refine br_false rfl ?_))|((with_reducible refine SemWp.id ?_);first|refine sem_seq ?_|refine sem_region rfl ?_|refine sem_cond rfl ?_|refine sem_block ?_|refine sem_ret ?_)|((with_reducible refine qThen.id ?_);first|refine qThen.go ?_|refine qThen.ret ?_)|((with_reducible refine hinBlock.id ?_);first|refine hinBlock.ret ?_)|refine Stp.look ?_|refine Stp.call ?_|refine Stp.eff ?_|((with_reducible refine CallWp.id ?_);first|(refine callA cx (I) ?_;(conv=>whnf))|(refine callA cx (NHavoc) ?_;(conv=>whnf))|(refine callA cx (NAssume) ?_;(conv=>whnf))|(refine callA cx (NAssert) ?_;(conv=>whnf))|(refine callA cx (NSkip) ?_;(conv=>whnf))|(refine callA cx (NIf) ?_;(conv=>whnf))|(refine callA cx (Y) ?_;(conv=>whnf))|(refine callTO cx (C) (by repeat first|exact HTake.nil|(apply HTake.cons;focus (repeat first|exact HPick.hit))) (fun rt hrt=>?_);simp only [keys,List.nil_append,List.cons_append,List.map_cons,List.map_nil,List.mem_cons,List.not_mem_nil,not_or,or_false,not_false_eq_true] at hrt;(conv=>whnf))|(refine callA cx (BA) ?_;(conv=>whnf)))|(refine newN (fun r hr=>?_);simp only [keys,List.nil_append,List.cons_append,List.map_cons,List.map_nil,List.mem_cons,List.not_mem_nil,not_or,or_false,not_false_eq_true] at hr)|((with_reducible refine BodyR.id ?_);first|refine BodyR.ret ?_)|((with_reducible refine ResG.id ?_);first|refine ResG.cell rfl ?_|refine ResG.nil ?_)|((with_reducible refine LoadIs.id ?_);first|refine LoadIs.agg (by repeat first|exact HGet.hit|apply HGet.miss (by first|(apply Ne.symm;assumption)|omega)) rfl rfl rfl ?_)|((with_reducible refine Upd.id ?_);first|(refine Upd.lit rfl ?_;(conv=>whnf)))
   refine Fin.mk ?_
   refine ⟨(by refine WeakerE.ret (Weaker.agg ?_);(repeat first|exact WeakerC.nil|refine WeakerC.cons ?_ rfl ?_|exact Weaker.refl _|exact Weaker.nil _|exact Weaker.tok _ _ _)),Subp.tk⟩
set_option maxHeartbeats 4000000 in
theorem st_either (l:List Tk) (wf:WfN l) (n:Nat) (IH:AllS l n) (r:Nat) (d:Int) (h0:0≤d) (h1:d≤50) (i:Nat) (hi:i < l.length) (k0:¬ (tk l i).kind=1) (aHavoc:isT l i kHavoc=false) (aAssume:isT l i kAssume=false) (aAssert:isT l i kAssert=false) (aSkip:isT l i kSkip=false) (aIf:isT l i kIf=false) (aWhile:isT l i kWhile=false) (ax:isT l i kEither=true) (res) (h:(bindR (pS l n .block d (i+1)) fun b j=>bindR (pMust l tOr d j) fun _ m=>bindR (pS l n .block d m) fun b2 m2=>okR [.mk 7 noS noS [] [] b b2] m2)=some res):goalT 44 [.ptr r 0] (rdS l r i d 0) d (rdS l r) res:=by
 have wt:=wf.toWfT
 have wl:=wt.len
 have AE:=allE l wf n
 have I:=now_spec r l i d 0 hi
 have hi1:=wt.more i hi (isT_kind ax)
 have NHavoc:=may_no r l i d 0 kHavoc hi aHavoc
 have NAssume:=may_no r l i d 0 kAssume hi aAssume
 have NAssert:=may_no r l i d 0 kAssert hi aAssert
 have NSkip:=may_no r l i d 0 kSkip hi aSkip
 have NIf:=may_no r l i d 0 kIf hi aIf
 have NWhile:=may_no r l i d 0 kWhile hi aWhile
 have Y:=may_yes r l i d 0 kEither wt hi ax
 cases hbA:pS l n .block d (i+1) with
 |none=>rw [hbA] at h;cases h
 |some r1=>
 rw [hbA] at h
 have BA:=IH.block n (Nat.le_refl _) r d (i+1) r1 hi1 h0 h1 hbA
 cases r1 with
 |error x=>
  obtain ⟨c,j',d'⟩:=x
  cases h
  have BA:To 51 [.ptr r 0] [(r,rd l ((i+1):Nat) d 0)] (.pan failV) [(r,rd l j' d' c)]:=BA
  show To _ _ _ (.pan failV) _
  clear IH AE
  unfold rdS rd at *
  try unfold encS7 at *
  try unfold stV at *
  try unfold noS at *
  generalize (tk l i).kind=kk at *
  generalize (tk l i).text=t at *
  generalize ((tk l i).pos:Int)=p at *
  refine HCalls.to (sem_calls' cx (fn:=Tryz.f44) rfl rfl rfl rfl ?_)
  repeat' first|refine Ops.tag rfl ?_|(refine OpsT.go ?_;(conv=>arg 7;whnf))|((with_reducible refine Stp.isEq ?_);first|refine Stp.eqF ?_)|refine Stp.pure rfl ?_|refine PutK.mk' rfl ?_|refine Ops.nil ?_|((with_reducible refine Side.id ?_);first|refine Side.auto ?_)|((with_reducible refine Br.id ?_);first|(with_reducible first|refine br_true rfl ?_|refine br_false rfl ?_))|((with_reducible refine SemWp.id ?_);first|refine sem_seq ?_|refine sem_region rfl ?_|refine sem_cond rfl ?_|refine sem_block ?_)|((with_reducible refine qThen.id ?_);first|refine qThen.go ?_)|refine Stp.call ?_|refine Stp.eff ?_|((with_reducible refine CallWp.id ?_);first|(refine callA cx (I) ?_;(conv=>whnf))|(refine callA cx (NHavoc) ?_;(conv=>whnf))|(refine callA cx (NAssume) ?_;(conv=>whnf))|(refine callA cx (NAssert) ?_;(conv=>whnf))|(refine callA cx (NSkip) ?_;(conv=>whnf))|(refine callA cx (NIf) ?_;(conv=>whnf))|(refine callA cx (NWhile) ?_;(conv=>whnf))|(refine callA cx (Y) ?_;(conv=>whnf))|(refine callB cx (BA) ?_;(conv=>whnf)))|(refine newN (fun r hr=>?_);simp only [keys,List.nil_append,List.cons_append,List.map_cons,List.map_nil,List.mem_cons,List.not_mem_nil,not_or,or_false,not_false_eq_true] at hr)|((with_reducible refine BodyR.id ?_);first|refine BodyR.pan ?_)
  refine Fin.mk ?_
  refine ⟨WeakerE.refl _,Subp.tk⟩
 |ok x=>
  obtain ⟨bA,jA⟩:=x
  have BA:To 51 [.ptr r 0] [(r,rd l ((i+1):Nat) d 0)] (.ret (LSDs bA)) [(r,rd l jA d 0)]:=BA
  have hjA:=(pS_facts wt n _ d _ bA jA hi1 hbA).1
  have h:(bindR (if isT l jA tOr=true then okR () (jA+1) else errR 4 jA d) fun _ m=>bindR (pS l n .block d m) fun b2 m2=>okR [.mk 7 noS noS [] [] bA b2] m2)=some res:=h
  cases b3:isT l jA tOr with
  |false=>
   rw [b3] at h
   cases h
   have M:=must_no r l jA d 0 tOr hjA b3
   show To _ _ _ (.pan failV) _
   clear IH AE
   unfold rdS rd at *
   try unfold encS7 at *
   try unfold stV at *
   try unfold noS at *
   generalize (tk l i).kind=kk at *
   generalize (tk l i).text=t at *
   generalize ((tk l i).pos:Int)=p at *
   refine HCalls.to (sem_calls' cx (fn:=Tryz.f44) rfl rfl rfl rfl ?_)
   repeat' first|refine Ops.tag rfl ?_|(refine OpsT.go ?_;(conv=>arg 7;whnf))|((with_reducible refine Stp.isEq ?_);first|refine Stp.eqF ?_)|refine Stp.pure rfl ?_|((with_reducible refine PutK.isSet ?_);refine PutK.st ?_)|refine PutK.mk' rfl ?_|refine Ops.nil ?_|((with_reducible refine Look.id ?_);refine Look.at ?_;try (conv=>arg 7;whnf))|((with_reducible refine Side.id ?_);first|refine Side.auto ?_)|((with_reducible refine Br.id ?_);first|(with_reducible first|refine br_true rfl ?_|refine br_false rfl ?_))|((with_reducible refine SemWp.id ?_);first|refine sem_seq ?_|refine sem_region rfl ?_|refine sem_cond rfl ?_|refine sem_block ?_)|((with_reducible refine qThen.id ?_);first|refine qThen.go ?_)|refine Stp.look ?_|refine Stp.call ?_|refine Stp.eff ?_|((with_reducible refine CallWp.id ?_);first|(refine callA cx (I) ?_;(conv=>whnf))|(refine callA cx (NHavoc) ?_;(conv=>whnf))|(refine callA cx (NAssume) ?_;(conv=>whnf))|(refine callA cx (NAssert) ?_;(conv=>whnf))|(refine callA cx (NSkip) ?_;(conv=>whnf))|(refine callA cx (NIf) ?_;(conv=>whnf))|(refine callA cx (NWhile) ?_;(conv=>whnf))|(refine callA cx (Y) ?_;(conv=>whnf))|(refine callA cx (BA) ?_;(conv=>whnf))|(refine callB cx (M) ?_;(conv=>whnf)))|(refine newN (fun r hr=>?_);simp only [keys,List.nil_append,List.cons_append,List.map_cons,List.map_nil,List.mem_cons,List.not_mem_nil,not_or,or_false,not_false_eq_true] at hr)|((with_reducible refine BodyR.id ?_);first|refine BodyR.pan ?_)|((with_reducible refine Upd.id ?_);first|(refine Upd.lit rfl ?_;(conv=>whnf)))
   refine Fin.mk ?_
   refine ⟨WeakerE.refl _,Subp.tk⟩
  |true=>
   rw [b3] at h
   have M:=must_yes r l jA d 0 tOr wt hjA b3
   have hj2:=wt.more jA hjA (isT_kind b3)
   have h:(bindR (pS l n .block d (jA+1)) fun b2 m2=>okR [SD.mk 7 noS noS [] [] bA b2] m2)=some res:=h
   cases hbB:pS l n .block d (jA+1) with
   |none=>rw [hbB] at h;cases h
   |some r1=>
   rw [hbB] at h
   have BB:=IH.block n (Nat.le_refl _) r d (jA+1) r1 hj2 h0 h1 hbB
   cases r1 with
   |error x=>
    obtain ⟨c,j',d'⟩:=x
    cases h
    have BB:To 51 [.ptr r 0] [(r,rd l ((jA+1):Nat) d 0)] (.pan failV) [(r,rd l j' d' c)]:=BB
    show To _ _ _ (.pan failV) _
    clear IH AE
    unfold rdS rd at *
    try unfold encS7 at *
    try unfold stV at *
    try unfold noS at *
    generalize (tk l i).kind=kk at *
    generalize (tk l i).text=t at *
    generalize ((tk l i).pos:Int)=p at *
    refine HCalls.to (sem_calls' cx (fn:=Tryz.f44) rfl rfl rfl rfl ?_)
    repeat' first|refine Ops.tag rfl ?_|(refine OpsT.go ?_;(conv=>arg 7;whnf))|((with_reducible refine Stp.isEq ?_);first|refine Stp.eqF ?_)|refine Stp.pure rfl ?_|((with_reducible refine PutK.isSet ?_);refine PutK.st ?_)|refine PutK.mk' rfl ?_|refine Ops.nil ?_|((with_reducible refine Look.id ?_);refine Look.at ?_;try (conv=>arg 7;whnf))|((with_reducible refine Side.id ?_);first|refine Side.auto ?_)|((with_reducible refine Br.id ?_);first|(with_reducible first|refine br_true rfl ?_|refine br_false rfl ?_))|((with_reducible refine SemWp.id ?_);first|refine sem_seq ?_|refine sem_region rfl ?_|refine sem_cond rfl ?_|refine sem_block ?_)|((with_reducible refine qThen.id ?_);first|refine qThen.go ?_)|refine Stp.look ?_|refine Stp.call ?_|refine Stp.eff ?_|((with_reducible refine CallWp.id ?_);first|(refine callA cx (I) ?_;(conv=>whnf))|(refine callA cx (NHavoc) ?_;(conv=>whnf))|(refine callA cx (NAssume) ?_;(conv=>whnf))|(refine callA cx (NAssert) ?_;(conv=>whnf))|(refine callA cx (NSkip) ?_;(conv=>whnf))|(refine callA cx (NIf) ?_;(conv=>whnf))|(refine callA cx (NWhile) ?_;(conv=>whnf))|(refine callA cx (Y) ?_;(conv=>whnf))|(refine callA cx (BA) ?_;(conv=>whnf))|(refine callA cx (M) ?_;(conv=>whnf))|(refine callB cx (BB) ?_;(conv=>whnf)))|(refine newN (fun r hr=>?_);simp only [keys,List.nil_append,List.cons_append,List.map_cons,List.map_nil,List.mem_cons,List.not_mem_nil,not_or,or_false,not_false_eq_true] at hr)|((with_reducible refine BodyR.id ?_);first|refine BodyR.pan ?_)|((with_reducible refine Upd.id ?_);first|(refine Upd.lit rfl ?_;(conv=>whnf)))
    refine Fin.mk ?_
    refine ⟨WeakerE.refl _,Subp.tk⟩
   |ok x=>
    obtain ⟨bB,jB⟩:=x
    have BB:To 51 [.ptr r 0] [(r,rd l ((jA+1):Nat) d 0)] (.ret (LSDs bB)) [(r,rd l jB d 0)]:=BB
    have hjB:=(pS_facts wt n _ d _ bB jB hj2 hbB).1
    cases h
    refine ⟨.mk 7 noS noS [] [] bA bB,rfl,?_⟩
    rw [encSDm]
    clear IH AE
    unfold rdS rd at *
    try unfold encS7 at *
    try unfold stV at *
    try unfold noS at *
    generalize (tk l i).kind=kk at *
    generalize (tk l i).text=t at *
    generalize ((tk l i).pos:Int)=p at *
    refine HCalls.to (sem_calls' cx (fn:=Tryz.f44) rfl rfl rfl rfl ?_)
    repeat' first|refine Ops.tag rfl ?_|(refine OpsT.go ?_;(conv=>arg 7;whnf))|((with_reducible refine Stp.isEq ?_);first|refine Stp.eqF ?_)|refine Stp.pure rfl ?_|((with_reducible refine PutK.isSet ?_);refine PutK.set (by repeat first|exact HsetIs.hit|apply HsetIs.miss (by first|(apply Ne.symm;assumption)|omega)) ?_)|refine PutK.mk' rfl ?_|refine Ops.nil ?_|((with_reducible refine Look.id ?_);refine Look.auto ?_ (by repeat first|exact HGet.hit|apply HGet.miss (by first|(apply Ne.symm;assumption)|omega));try (conv=>arg 7;whnf))|((with_reducible refine Side.id ?_);first|refine Side.auto ?_)|((with_reducible refine Br.id ?_);first|(with_reducible first|refine br_true rfl ?_|refine br_false rfl ?_))|((with_reducible refine SemWp.id ?_);first|refine sem_seq ?_|refine sem_region rfl ?_|refine sem_cond rfl ?_|refine sem_block ?_|refine sem_ret ?_)|((with_reducible refine qThen.id ?_);first|refine qThen.go ?_|refine qThen.ret ?_)|((with_reducible refine hinBlock.id ?_);first|refine hinBlock.ret ?_)|refine Stp.look ?_|refine Stp.call ?_|refine Stp.eff ?_|((with_reducible refine CallWp.id ?_);first|(refine callA cx (I) ?_;(conv=>whnf))|(refine callA cx (NHavoc) ?_;(conv=>whnf))|(refine callA cx (NAssume) ?_;(conv=>whnf))|(refine callA cx (NAssert) ?_;(conv=>whnf))|(refine callA cx (NSkip) ?_;(conv=>whnf))|(refine callA cx (NIf) ?_;(conv=>whnf))|(refine callA cx (NWhile) ?_;(conv=>whnf))|(refine callA cx (Y) ?_;(conv=>whnf))|(refine callA cx (BA) ?_;(conv=>whnf))|(refine callA cx (M) ?_;(conv=>whnf))|(refine callA cx (BB) ?_;(conv=>whnf)))|(refine newN (fun r hr=>?_);simp only [keys,List.nil_append,List.cons_append,List.map_cons,List.map_nil,List.mem_cons,List.not_mem_nil,not_or,or_false,not_false_eq_true] at hr)|((with_reducible refine BodyR.id ?_);first|refine BodyR.ret ?_)|((with_reducible refine ResG.id ?_);first|refine ResG.cell rfl ?_|refine ResG.nil ?_)|((with_reducible refine LoadIs.id ?_);first|refine LoadIs.agg (by repeat first|exact HGet.hit|apply HGet.miss (by first|(apply Ne.symm;assumption)|omega)) rfl rfl rfl ?_)|((with_reducible refine Upd.id ?_);first|(refine Upd.lit rfl ?_;(conv=>whnf)))
    refine Fin.mk ?_
    refine ⟨(by refine WeakerE.ret (Weaker.agg ?_);(repeat first|exact WeakerC.nil|refine WeakerC.cons ?_ rfl ?_|exact Weaker.refl _|exact Weaker.nil _|exact Weaker.tok _ _ _)),Subp.tk⟩
set_option maxHeartbeats 4000000 in
theorem st_none (l:List Tk) (wf:WfN l) (n:Nat) (IH:AllS l n) (r:Nat) (d:Int) (h0:0≤d) (h1:d≤50) (i:Nat) (hi:i < l.length) (k0:¬ (tk l i).kind=1) (aHavoc:isT l i kHavoc=false) (aAssume:isT l i kAssume=false) (aAssert:isT l i kAssert=false) (aSkip:isT l i kSkip=false) (aIf:isT l i kIf=false) (aWhile:isT l i kWhile=false) (aEither:isT l i kEither=false) (res) (h:(errR 4 i d:Res' (List SD))=some res):goalT 44 [.ptr r 0] (rdS l r i d 0) d (rdS l r) res:=by
 have wt:=wf.toWfT
 have wl:=wt.len
 have AE:=allE l wf n
 have I:=now_spec r l i d 0 hi
 have NHavoc:=may_no r l i d 0 kHavoc hi aHavoc
 have NAssume:=may_no r l i d 0 kAssume hi aAssume
 have NAssert:=may_no r l i d 0 kAssert hi aAssert
 have NSkip:=may_no r l i d 0 kSkip hi aSkip
 have NIf:=may_no r l i d 0 kIf hi aIf
 have NWhile:=may_no r l i d 0 kWhile hi aWhile
 have NEither:=may_no r l i d 0 kEither hi aEither
 cases h
 have F:=fail_spec r l i d 0 4
 show To _ _ _ (.pan failV) _
 clear IH AE
 unfold rdS rd at *
 try unfold encS7 at *
 try unfold stV at *
 try unfold noS at *
 generalize (tk l i).kind=kk at *
 generalize (tk l i).text=t at *
 generalize ((tk l i).pos:Int)=p at *
 refine HCalls.to (sem_calls' cx (fn:=Tryz.f44) rfl rfl rfl rfl ?_)
 repeat' first|refine Ops.tag rfl ?_|(refine OpsT.go ?_;(conv=>arg 7;whnf))|((with_reducible refine Stp.isEq ?_);first|refine Stp.eqF ?_)|refine Stp.pure rfl ?_|refine PutK.mk' rfl ?_|refine Ops.nil ?_|((with_reducible refine Side.id ?_);first|refine Side.auto ?_)|((with_reducible refine Br.id ?_);first|(with_reducible first|refine br_false rfl ?_))|((with_reducible refine SemWp.id ?_);first|refine sem_seq ?_|refine sem_region rfl ?_|refine sem_cond rfl ?_|refine sem_block ?_|refine sem_skip ?_)|((with_reducible refine qThen.id ?_);first|refine qThen.go ?_)|((with_reducible refine hinBlock.id ?_);first|refine hinBlock.go ?_)|refine Stp.call ?_|refine Stp.eff ?_|((with_reducible refine CallWp.id ?_);first|(refine callA cx (I) ?_;(conv=>whnf))|(refine callA cx (NHavoc) ?_;(conv=>whnf))|(refine callA cx (NAssume) ?_;(conv=>whnf))|(refine callA cx (NAssert) ?_;(conv=>whnf))|(refine callA cx (NSkip) ?_;(conv=>whnf))|(refine callA cx (NIf) ?_;(conv=>whnf))|(refine callA cx (NWhile) ?_;(conv=>whnf))|(refine callA cx (NEither) ?_;(conv=>whnf))|(refine callB cx (F) ?_;(conv=>whnf)))|(refine newN (fun r hr=>?_);simp only [keys,List.nil_append,List.cons_append,List.map_cons,List.map_nil,List.mem_cons,List.not_mem_nil,not_or,or_false,not_false_eq_true] at hr)|((with_reducible refine BodyR.id ?_);first|refine BodyR.pan ?_)
 refine Fin.mk ?_
 refine ⟨WeakerE.refl _,Subp.tk⟩
end Go.Proofs.Hk

set_option linter.unusedSimpArgs false
set_option linter.unusedVariables false
set_option maxRecDepth 4000
namespace Go.Proofs.Hk
open Go Go.Proofs
theorem stmt_lvl (l:List Tk) (wf:WfN l) (n:Nat) (IH:AllS l n) (r:Nat) (d:Int) (h0:0≤d) (h1:d≤50) (i:Nat) (hi:i < l.length) (res) (h:pS l (n+1) .stmt d i=some res):goalT 44 [.ptr r 0] (rdS l r i d 0) d (rdS l r) res:=by
 simp only [pS] at h
 by_cases k0:(tk l i).kind=1
 ·rw [if_pos k0] at h
  exact st_name l wf n IH r d h0 h1 i hi k0 res h
 rw [if_neg k0] at h
 cases a1:isT l i kHavoc with
 |true=>rw [if_pos a1] at h;exact st_havoc l wf n IH r d h0 h1 i hi k0 a1 res h
 |false=>
 rw [if_neg (by rw [a1];exact Bool.false_ne_true)] at h
 cases a2:isT l i kAssume with
 |true=>rw [if_pos a2] at h;exact st_assume l wf n IH r d h0 h1 i hi k0 a1 a2 res h
 |false=>
 rw [if_neg (by rw [a2];exact Bool.false_ne_true)] at h
 cases a3:isT l i kAssert with
 |true=>rw [if_pos a3] at h;exact st_assert l wf n IH r d h0 h1 i hi k0 a1 a2 a3 res h
 |false=>
 rw [if_neg (by rw [a3];exact Bool.false_ne_true)] at h
 cases a4:isT l i kSkip with
 |true=>rw [if_pos a4] at h;exact st_skip l wf n IH r d h0 h1 i hi k0 a1 a2 a3 a4 res h
 |false=>
 rw [if_neg (by rw [a4];exact Bool.false_ne_true)] at h
 cases a5:isT l i kIf with
 |true=>rw [if_pos a5] at h;exact st_if l wf n IH r d h0 h1 i hi k0 a1 a2 a3 a4 a5 res h
 |false=>
 rw [if_neg (by rw [a5];exact Bool.false_ne_true)] at h
 cases a6:isT l i kWhile with
 |true=>rw [if_pos a6] at h;exact st_while l wf n IH r d h0 h1 i hi k0 a1 a2 a3 a4 a5 a6 res h
 |false=>
 rw [if_neg (by rw [a6];exact Bool.false_ne_true)] at h
 cases a7:isT l i kEither with
 |true=>rw [if_pos a7] at h;exact st_either l wf n IH r d h0 h1 i hi k0 a1 a2 a3 a4 a5 a6 a7 res h
 |false=>
 rw [if_neg (by rw [a7];exact Bool.false_ne_true)] at h
 exact st_none l wf n IH r d h0 h1 i hi k0 a1 a2 a3 a4 a5 a6 a7 res h
set_option maxHeartbeats 4000000 in
theorem block_lvl (l:List Tk) (wf:WfN l) (n:Nat) (IH:AllS l n) (r:Nat) (d:Int) (h0:0≤d) (h1:d≤50) (i:Nat) (hi:i < l.length) (res) (h:pS l (n+1) .block d i=some res):goalL 51 [.ptr r 0] (rdS l r i d 0) d (rdS l r) res:=by
 have wt:=wf.toWfT
 simp only [pS] at h
 cases b1:isT l i (tc 123) with
 |false=>
  rw [if_neg (by rw [b1];exact Bool.false_ne_true)] at h
  cases h
  have O:=open_no r l i d 0 (tc 123) hi b1
  show To _ _ _ (.pan failV) _
  clear IH
  unfold rdS rd at *
  refine HCalls.to (sem_calls' cx (fn:=Tryz.f51) rfl rfl rfl rfl ?_)
  repeat' first|refine Ops.tag rfl ?_|(refine OpsT.go ?_;(conv=>arg 7;whnf))|refine Stp.pure rfl ?_|refine Ops.nil ?_|((with_reducible refine Side.id ?_);first|refine Side.auto ?_)|((with_reducible refine SemWp.id ?_);first|refine sem_seq ?_|refine sem_region rfl ?_)|((with_reducible refine qThen.id ?_);first|refine qThen.go ?_)|refine Stp.call ?_|((with_reducible refine CallWp.id ?_);first|(refine callB cx (O) ?_;(conv=>whnf)))|((with_reducible refine BodyR.id ?_);first|refine BodyR.pan ?_)
  refine Fin.mk ?_
  refine ⟨WeakerE.refl _,Subp.tk⟩
 |true=>
 rw [if_pos b1] at h
 by_cases hd:50≤d
 ·rw [if_pos hd] at h
  cases h
  have O:=open_deep r l i d 0 (tc 123) hi b1 hd
  show To _ _ _ (.pan failV) _
  clear IH
  unfold rdS rd at *
  refine HCalls.to (sem_calls' cx (fn:=Tryz.f51) rfl rfl rfl rfl ?_)
  repeat' first|refine Ops.tag rfl ?_|(refine OpsT.go ?_;(conv=>arg 7;whnf))|refine Stp.pure rfl ?_|refine Ops.nil ?_|((with_reducible refine Side.id ?_);first|refine Side.auto ?_)|((with_reducible refine SemWp.id ?_);first|refine sem_seq ?_|refine sem_region rfl ?_)|((with_reducible refine qThen.id ?_);first|refine qThen.go ?_)|refine Stp.call ?_|((with_reducible refine CallWp.id ?_);first|(refine callB cx (O) ?_;(conv=>whnf)))|((with_reducible refine BodyR.id ?_);first|refine BodyR.pan ?_)
  refine Fin.mk ?_
  refine ⟨WeakerE.refl _,Subp.tk⟩
 rw [if_neg hd] at h
 have hi1:=wt.more i hi (isT_kind b1)
 have O:=open_yes r l i d 0 (tc 123) wt hi b1 hd h0
 cases hb:pS l n (.stmts []) (d+1) (i+1) with
 |none=>rw [hb] at h;cases h
 |some r1=>
 rw [hb] at h
 have C:=IH.stmts n (Nat.le_refl _) r (d+1) (i+1) r1 hi1 (by omega) (by omega) hb
 cases r1 with
 |error x=>
  obtain ⟨c,j,d'⟩:=x
  cases h
  have C:To 30 [.ptr r 0] [(r,rd l (i+1:Nat) (d+1) 0)] (.pan failV) [(r,rd l j d' c)]:=C
  show To _ _ _ (.pan failV) _
  clear IH
  unfold rdS rd at *
  refine HCalls.to (sem_calls' cx (fn:=Tryz.f51) rfl rfl rfl rfl ?_)
  repeat' first|refine Ops.tag rfl ?_|(refine OpsT.go ?_;(conv=>arg 7;whnf))|refine Stp.pure rfl ?_|refine PutK.mk' rfl ?_|refine Ops.nil ?_|((with_reducible refine Side.id ?_);first|refine Side.auto ?_)|((with_reducible refine SemWp.id ?_);first|refine sem_seq ?_|refine sem_region rfl ?_)|((with_reducible refine qThen.id ?_);first|refine qThen.go ?_)|refine Stp.call ?_|((with_reducible refine CallWp.id ?_);first|(refine callA cx (O) ?_;(conv=>whnf))|(refine callB cx (C) ?_;(conv=>whnf)))|((with_reducible refine BodyR.id ?_);first|refine BodyR.pan ?_)
  refine Fin.mk ?_
  refine ⟨WeakerE.refl _,Subp.tk⟩
 |ok x=>
  obtain ⟨b,j⟩:=x
  have C:To 30 [.ptr r 0] [(r,rd l (i+1:Nat) (d+1) 0)] (.ret (LSDs b)) [(r,rd l j (d+1) 0)]:=C
  have hj:=(pS_facts wt n _ (d+1) _ b j hi1 hb).1
  have h:(if isT l j (tc 125)=true then okR b (j+1) else errR 4 j (d+1))=some res:=h
  cases b3:isT l j (tc 125) with
  |false=>
   rw [b3] at h
   cases h
   have M:=close_no r l j (d+1) 0 (tc 125) ne1 hj b3
   show To _ _ _ (.pan failV) _
   clear IH
   unfold rdS rd at *
   refine HCalls.to (sem_calls' cx (fn:=Tryz.f51) rfl rfl rfl rfl ?_)
   repeat' first|refine Ops.tag rfl ?_|(refine OpsT.go ?_;(conv=>arg 7;whnf))|refine Stp.pure rfl ?_|refine PutK.mk' rfl ?_|refine Ops.nil ?_|((with_reducible refine Side.id ?_);first|refine Side.auto ?_)|((with_reducible refine SemWp.id ?_);first|refine sem_seq ?_|refine sem_region rfl ?_)|((with_reducible refine qThen.id ?_);first|refine qThen.go ?_)|refine Stp.call ?_|((with_reducible refine CallWp.id ?_);first|(refine callA cx (O) ?_;(conv=>whnf))|(refine callA cx (C) ?_;(conv=>whnf))|(refine callB cx (M) ?_;(conv=>whnf)))|((with_reducible refine BodyR.id ?_);first|refine BodyR.pan ?_)
   refine Fin.mk ?_
   refine ⟨WeakerE.refl _,Subp.tk⟩
  |true=>
   rw [b3] at h
   cases h
   have M:=close_yes r l j (d+1) 0 (tc 125) wt ne1 hj b3 (by omega) (by omega)
   rw [show d+1 - 1=d by omega] at M
   show To _ _ _ (.ret (LSDs b)) _
   clear IH
   unfold rdS rd at *
   refine HCalls.to (sem_calls' cx (fn:=Tryz.f51) rfl rfl rfl rfl ?_)
   repeat' first|refine Ops.tag rfl ?_|(refine OpsT.go ?_;(conv=>arg 7;whnf))|refine Stp.pure rfl ?_|refine PutK.mk' rfl ?_|refine Ops.nil ?_|((with_reducible refine Side.id ?_);first|refine Side.auto ?_)|((with_reducible refine SemWp.id ?_);first|refine sem_seq ?_|refine sem_region rfl ?_|refine sem_ret ?_)|((with_reducible refine qThen.id ?_);first|refine qThen.go ?_)|refine Stp.call ?_|((with_reducible refine CallWp.id ?_);first|(refine callA cx (O) ?_;(conv=>whnf))|(refine callA cx (C) ?_;(conv=>whnf))|(refine callA cx (M) ?_;(conv=>whnf)))|((with_reducible refine BodyR.id ?_);first|refine BodyR.ret ?_)|((with_reducible refine ResG.id ?_);first|refine ResG.tmp rfl ?_|refine ResG.nil ?_)
   refine Fin.mk ?_
   refine ⟨WeakerE.refl _,Subp.tk⟩
abbrev endLs (l:List Tk) (r:Nat) (d:Int) (res:Except (Int × Nat × Int) (List SD × Nat)) (e:HEnd) (st:HS):Prop:=
 match res with
 |.ok (x,j)=>WeakerE e (.ret (LSDs x))∧Subp (rdS l r j d 0) st
 |.error (c,j,d')=>WeakerE e (.pan failV)∧Subp (rdS l r j d' c) st
set_option maxHeartbeats 4000000 in
theorem stmts_lvl (l:List Tk) (wf:WfN l) (n:Nat) (IH:AllS l n) (r:Nat) (d:Int) (h0:0≤d) (h1:d≤50) (i:Nat) (hi:i < l.length) (res) (h:pS l (n+1) (.stmts []) d i=some res):goalL 30 [.ptr r 0] (rdS l r i d 0) d (rdS l r) res:=by
 have wt:=wf.toWfT
 have wl:=wt.len
 have key:HCalls cx.P 30 [.ptr r 0] (rdS l r i d 0) (endLs l r d res):=by
  unfold rdS rd at *
  refine sem_calls' cx (fn:=Tryz.f30) rfl rfl rfl rfl ?_
  have PF:=fun f i b j hi h=>pS_facts wt f .stmt d i b j hi h
  have IS:=fun i hi=>is_spec r l i d 0 (tc 125) hi
  have ST:=IH.stmt
  clear IH
  repeat' first|refine Ops.tag rfl ?_|(refine OpsT.go ?_;(conv=>arg 7;whnf))|refine Stp.pure rfl ?_|refine Ops.nil ?_|((with_reducible refine SemWp.id ?_);first|refine sem_seq ?_|refine sem_region rfl ?_|refine sem_block ?_)|((with_reducible refine qThen.id ?_);first|refine qThen.go ?_)
  refine sem_nil_own cx 3 7 rfl ?_
  intro rt hrt
  simp only [keys,List.map_cons,List.map_nil,List.mem_cons,List.not_mem_nil,not_or,or_false,not_false_eq_true] at hrt
  refine sem_loop4 cx (fun g acc j (_:Unit)=>g≤n+1∧j < l.length∧acc.length≤j∧pS l g (.stmts acc) d j=some res) (fun g acc j _=>[(0,.sure,.ptr r 0),(3,.sure,.list (.own rt 0) 7 (acc.map encSD))]) (fun g acc j _=>[(r,.cells [LTk l,ii j,ii d,ii 0] 47),(rt,.tok acc.length)]) (fun g=>g) (n+1) [] i () ⟨Nat.le_refl _,hi,Nat.zero_le _,h⟩ (Sub.cons rfl rfl (Sub.cons rfl rfl (Sub.nil _))) Subp.tk ?_
  clear h
  rintro g acc j _ ⟨hg,hj,hla,hp⟩
  have ml:(acc.map encSD).length=acc.length:=by simp
  cases g with
  |zero=>cases hp
  |succ g=>
  have I:=IS j hj
  simp only [pS] at hp
  cases b3:isT l j (tc 125) with
  |true=>
   rw [if_pos b3] at hp
   cases hp
   rw [b3] at I
   clear ST PF
   unfold rd at *
   repeat' first|refine Ops.tag rfl ?_|(refine OpsT.go ?_;(conv=>arg 7;whnf))|(with_reducible first|refine Stp.notT ?_)|refine Stp.pure rfl ?_|refine PutK.mk' rfl ?_|refine Ops.nil ?_|((with_reducible refine Side.id ?_);first|refine Side.auto ?_)|((with_reducible refine Br.id ?_);first|(with_reducible first|refine br_false rfl ?_))|((with_reducible refine SemWp.id ?_);first|refine sem_seq ?_|refine sem_region rfl ?_|refine sem_cond rfl ?_|refine sem_exit ?_|refine sem_ret ?_)|((with_reducible refine qThen.id ?_);first|refine qThen.go ?_)|refine Stp.call ?_|((with_reducible refine CallWp.id ?_);first|(refine callA cx (I) ?_;(conv=>whnf)))|((with_reducible refine BodyR.id ?_);first|refine BodyR.ret ?_)|((with_reducible refine ResG.id ?_);first|refine ResG.tmp rfl ?_|refine ResG.nil ?_)
   refine Fin.mk ?_
   refine ⟨(.ret (Weaker.tok _ _ _)),Subp.tk⟩
  |false=>
   rw [if_neg (by rw [b3];exact Bool.false_ne_true)] at hp
   rw [b3] at I
   cases hb:pS l g .stmt d j with
   |none=>rw [hb] at hp;cases hp
   |some r1=>
   rw [hb] at hp
   have C:=ST g (by omega) r d j r1 hj h0 h1 hb
   cases r1 with
   |error x=>
    obtain ⟨c,m,d'⟩:=x
    cases hp
    have C:To 44 [.ptr r 0] [(r,rd l j d 0)] (.pan failV) [(r,rd l m d' c)]:=C
    clear ST PF
    unfold rd at *
    repeat' first|refine Ops.tag rfl ?_|(refine OpsT.go ?_;(conv=>arg 7;whnf))|(with_reducible first|refine Stp.notF ?_)|refine Stp.pure rfl ?_|refine PutK.mk' rfl ?_|refine Ops.nil ?_|((with_reducible refine Side.id ?_);first|refine Side.auto ?_)|((with_reducible refine Br.id ?_);first|(with_reducible first|refine br_true rfl ?_))|((with_reducible refine SemWp.id ?_);first|refine sem_seq ?_|refine sem_region rfl ?_|refine sem_cond rfl ?_|refine sem_block ?_|refine sem_skip ?_)|((with_reducible refine qThen.id ?_);first|refine qThen.go ?_)|refine Stp.call ?_|((with_reducible refine CallWp.id ?_);first|(refine callA cx (I) ?_;(conv=>whnf))|(refine callB cx (C) ?_;(conv=>whnf)))|((with_reducible refine BodyR.id ?_);first|refine BodyR.pan ?_)
    refine Fin.mk ?_
    refine ⟨WeakerE.refl _,Subp.tk⟩
   |ok x=>
    obtain ⟨b,m⟩:=x
    obtain ⟨s,rfl,C⟩:=C
    have F:=PF g j [s] m hj hb
    have hp:pS l g (.stmts (acc ++ [s])) d m=some res:=hp
    have C:To 44 [.ptr r 0] [(r,rd l j d 0)] (.ret (encSD s)) [(r,rd l m d 0)]:=C
    have e1:(acc ++ [s]).map encSD=acc.map encSD ++ [encSD s]:=by simp
    have e2:(acc ++ [s]).length=acc.length+1:=by simp
    obtain ⟨sk,sn,sp,se,sa,sb,sl⟩:=s
    rw [encSDm] at C e1
    simp only [Ls.least] at F
    clear ST PF hb
    unfold rd at *
    repeat' first|refine Ops.tag rfl ?_|(refine OpsT.go ?_;(conv=>arg 7;whnf))|(with_reducible first|refine Stp.notF ?_)|refine Stp.pure rfl ?_|((with_reducible refine PutK.isSet ?_);refine PutK.set (by repeat first|exact HsetIs.hit|apply HsetIs.miss (by first|(apply Ne.symm;assumption))) ?_)|refine PutK.mk' rfl ?_|refine Ops.nil ?_|((with_reducible refine Look.id ?_);refine Look.auto ?_ (by repeat first|exact HGet.hit|apply HGet.miss (by first|(apply Ne.symm;assumption)));try (conv=>arg 7;whnf))|((with_reducible refine Side.id ?_);first|refine Side.auto ?_)|((with_reducible refine Br.id ?_);first|(with_reducible first|refine br_true rfl ?_))|((with_reducible refine SemWp.id ?_);first|refine sem_seq ?_|refine sem_region rfl ?_|refine sem_cond rfl ?_|refine sem_block ?_|refine sem_skip ?_)|((with_reducible refine qThen.id ?_);first|refine qThen.go ?_)|((with_reducible refine hinBlock.id ?_);first|refine hinBlock.go ?_)|((with_reducible refine hround.id ?_);first|refine hround.go ?_)|refine Stp.look ?_|refine Stp.call ?_|refine Stp.eff ?_|((with_reducible refine CallWp.id ?_);first|(refine callA cx (I) ?_;(conv=>whnf))|(refine callA cx (C) ?_;(conv=>whnf)))
    refine Fin.mk ⟨g,_,m,(),⟨by omega,F.1,by rw [e2];omega,hp⟩,by omega,Sub.cons rfl rfl (Sub.cons rfl (by rw [e1]) (Sub.nil _)),?_⟩
    rw [e2]
    exact Subp.tk
 cases res with
 |ok x=>exact HCalls.to key
 |error x=>exact HCalls.to key
theorem allS (l:List Tk) (wf:WfN l):∀ n,AllS l n
 |0=>by
  constructor<;>(intro f hf r d i res hi h0 h1 h;cases Nat.le_zero.1 hf;cases h)
 |n+1=>by
  have IH:=allS l wf n
  constructor
  ·intro f hf r d i res hi h0 h1 h
   rcases Nat.lt_or_ge n f with hlt|hge
   ·have:f=n+1:=by omega
    subst this
    exact stmts_lvl l wf n IH r d h0 h1 i hi res h
   ·exact IH.stmts f hge r d i res hi h0 h1 h
  ·intro f hf r d i res hi h0 h1 h
   rcases Nat.lt_or_ge n f with hlt|hge
   ·have:f=n+1:=by omega
    subst this
    exact block_lvl l wf n IH r d h0 h1 i hi res h
   ·exact IH.block f hge r d i res hi h0 h1 h
  ·intro f hf r d i res hi h0 h1 h
   rcases Nat.lt_or_ge n f with hlt|hge
   ·have:f=n+1:=by omega
    subst this
    exact stmt_lvl l wf n IH r d h0 h1 i hi res h
   ·exact IH.stmt f hge r d i res hi h0 h1 h
end Go.Proofs.Hk

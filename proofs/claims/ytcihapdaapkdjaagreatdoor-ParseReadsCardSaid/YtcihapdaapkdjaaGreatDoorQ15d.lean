import Derived.Test.YtcihapdaapkdjaaGreatDoorQ14
import Derived.Test.YtcihapdaapkdjaaGreatDoorH41
set_option linter.unusedSimpArgs false
set_option linter.unusedVariables false
set_option maxRecDepth 4000
namespace Go.Proofs.Hk
open Go Go.Proofs
/-- What a function that reads statements does, and one that reads one. -/
def goalL (fn:FuncId) (args:List HV) (s0:HS) (d:Int) (S:Nat→Int→Int→HS) (res:Except (Int × Nat × Int) (List SD × Nat)):Prop:=
 match res with
 |.ok (x,j)=>To fn args s0 (.ret (LSDs x)) (S j d 0)
 |.error (c,j,d')=>To fn args s0 (.pan failV) (S j d' c)
def goalT (fn:FuncId) (args:List HV) (s0:HS) (d:Int) (S:Nat→Int→Int→HS) (res:Except (Int × Nat × Int) (List SD × Nat)):Prop:=
 match res with
 |.ok (x,j)=>∃ s,x=[s]∧To fn args s0 (.ret (encSD s)) (S j d 0)
 |.error (c,j,d')=>To fn args s0 (.pan failV) (S j d' c)
structure AllS (l:List Tk) (n:Nat):Prop where
 stmts:∀ f,f≤n→∀ r d i res,i < l.length→0≤d→d≤50→pS l f (.stmts []) d i=some res→goalL 30 [.ptr r 0] (rdS l r i d 0) d (rdS l r) res
 block:∀ f,f≤n→∀ r d i res,i < l.length→0≤d→d≤50→pS l f .block d i=some res→goalL 51 [.ptr r 0] (rdS l r i d 0) d (rdS l r) res
 stmt:∀ f,f≤n→∀ r d i res,i < l.length→0≤d→d≤50→pS l f .stmt d i=some res→goalT 44 [.ptr r 0] (rdS l r i d 0) d (rdS l r) res
theorem encSDm (k:Int) (n p:ByteArray) (e:List ND) (a:List (List ND)) (b el:List SD):encSD (.mk k n p e a b el) = .agg [ii k,ss n,ss p,LNs e,LLNs a,LSDs b,LSDs el]:=by simp [encSD,encS7,encSDs_map,LSDs]
end Go.Proofs.Hk

set_option linter.unusedSimpArgs false
set_option linter.unusedVariables false
set_option maxRecDepth 4000
namespace Go.Proofs.Hk
open Go Go.Proofs
set_option maxHeartbeats 4000000 in
theorem st_name (l:List Tk) (wf:WfN l) (n:Nat) (IH:AllS l n) (r:Nat) (d:Int) (h0:0≤d) (h1:d≤50) (i:Nat) (hi:i < l.length) (k0:(tk l i).kind=1) (res) (h:(bindR (pNamed l n (tk l i).text d (i+1)) fun s j=>okR [s] j)=some res):goalT 44 [.ptr r 0] (rdS l r i d 0) d (rdS l r) res:=by
 have wt:=wf.toWfT
 have wl:=wt.len
 have AE:=allE l wf n
 have I:=now_spec r l i d 0 hi
 have hi1:=wt.more i hi (by omega)
 cases hb:pNamed l n (tk l i).text d (i+1) with
 |none=>rw [hb] at h;cases h
 |some r1=>
 rw [hb] at h
 have C:=named_lvl l wf r (tk l i).text (i+1) d hi1 h0 h1 n r1 hb
 have NM:=name_yes r l i d 0 wt hi k0
 cases r1 with
 |error x=>
  obtain ⟨c,j,d'⟩:=x
  cases h
  have C:To 48 [.ptr r 0,ss (tk l i).text] [(r,rd l (i+1:Nat) d 0)] (.pan failV) [(r,rd l j d' c)]:=C
  show To _ _ _ (.pan failV) _
  clear IH AE
  clear hb
  unfold rdS rd at *
  try unfold encS7 at *
  try unfold stV at *
  try unfold noS at *
  rw [k0] at I
  generalize (tk l i).text=t at *
  generalize ((tk l i).pos:Int)=p at *
  refine HCalls.to (sem_calls' cx (fn:=Tryz.f44) rfl rfl rfl rfl ?_)
  repeat' first|refine Ops.tag rfl ?_|(refine OpsT.go ?_;(conv=>arg 7;whnf))|((with_reducible refine Stp.isEq ?_);first|refine Stp.eqT ?_)|refine Stp.pure rfl ?_|refine PutK.mk' rfl ?_|refine Ops.nil ?_|((with_reducible refine Side.id ?_);first|refine Side.auto ?_)|((with_reducible refine Br.id ?_);first|(with_reducible first|refine br_true rfl ?_))|((with_reducible refine SemWp.id ?_);first|refine sem_seq ?_|refine sem_region rfl ?_|refine sem_cond rfl ?_|refine sem_block ?_)|((with_reducible refine qThen.id ?_);first|refine qThen.go ?_)|refine Stp.call ?_|refine Stp.eff ?_|((with_reducible refine CallWp.id ?_);first|(refine callA cx (I) ?_;(conv=>whnf))|(refine callA cx (NM) ?_;(conv=>whnf))|(refine callB cx (C) ?_;(conv=>whnf)))|(refine newN (fun r hr=>?_);simp only [keys,List.nil_append,List.cons_append,List.map_cons,List.map_nil,List.mem_cons,List.not_mem_nil,not_or,or_false,not_false_eq_true] at hr)|((with_reducible refine BodyR.id ?_);first|refine BodyR.pan ?_)
  refine Fin.mk ?_
  refine ⟨WeakerE.refl _,Subp.tk⟩
 |ok x=>
  obtain ⟨s,j⟩:=x
  cases h
  have C:To 48 [.ptr r 0,ss (tk l i).text] [(r,rd l (i+1:Nat) d 0)] (.ret (encSD s)) [(r,rd l j d 0)]:=C
  obtain ⟨sk,sn,sp,se,sa,sb,sl⟩:=s
  rw [encSDm] at C
  refine ⟨.mk sk sn sp se sa sb sl,rfl,?_⟩
  rw [encSDm]
  clear IH AE
  clear hb
  unfold rdS rd at *
  try unfold encS7 at *
  try unfold stV at *
  try unfold noS at *
  rw [k0] at I
  generalize (tk l i).text=t at *
  generalize ((tk l i).pos:Int)=p at *
  refine HCalls.to (sem_calls' cx (fn:=Tryz.f44) rfl rfl rfl rfl ?_)
  repeat' first|refine Ops.tag rfl ?_|(refine OpsT.go ?_;(conv=>arg 7;whnf))|((with_reducible refine Stp.isEq ?_);first|refine Stp.eqT ?_)|refine Stp.pure rfl ?_|((with_reducible refine PutK.isSet ?_);refine PutK.set (by repeat first|exact HsetIs.hit|apply HsetIs.miss (by first|(apply Ne.symm;assumption))) ?_)|refine PutK.mk' rfl ?_|refine Ops.nil ?_|((with_reducible refine Look.id ?_);refine Look.auto ?_ (by repeat first|exact HGet.hit|apply HGet.miss (by first|(apply Ne.symm;assumption)));try (conv=>arg 7;whnf))|((with_reducible refine Side.id ?_);first|refine Side.auto ?_)|((with_reducible refine Br.id ?_);first|(with_reducible first|refine br_true rfl ?_))|((with_reducible refine SemWp.id ?_);first|refine sem_seq ?_|refine sem_region rfl ?_|refine sem_cond rfl ?_|refine sem_block ?_|refine sem_ret ?_)|((with_reducible refine qThen.id ?_);first|refine qThen.go ?_|refine qThen.ret ?_)|((with_reducible refine hinBlock.id ?_);first|refine hinBlock.ret ?_)|refine Stp.look ?_|refine Stp.call ?_|refine Stp.eff ?_|((with_reducible refine CallWp.id ?_);first|(refine callA cx (I) ?_;(conv=>whnf))|(refine callA cx (NM) ?_;(conv=>whnf))|(refine callA cx (C) ?_;(conv=>whnf)))|(refine newN (fun r hr=>?_);simp only [keys,List.nil_append,List.cons_append,List.map_cons,List.map_nil,List.mem_cons,List.not_mem_nil,not_or,or_false,not_false_eq_true] at hr)|((with_reducible refine BodyR.id ?_);first|refine BodyR.ret ?_)|((with_reducible refine ResG.id ?_);first|refine ResG.cell rfl ?_|refine ResG.nil ?_)|((with_reducible refine LoadIs.id ?_);first|refine LoadIs.agg (by repeat first|exact HGet.hit|apply HGet.miss (by first|(apply Ne.symm;assumption))) rfl rfl rfl ?_)|((with_reducible refine Upd.id ?_);first|(refine Upd.lit rfl ?_;(conv=>whnf)))
  refine Fin.mk ?_
  refine ⟨WeakerE.refl _,Subp.tk⟩
set_option maxHeartbeats 4000000 in
theorem st_havoc (l:List Tk) (wf:WfN l) (n:Nat) (IH:AllS l n) (r:Nat) (d:Int) (h0:0≤d) (h1:d≤50) (i:Nat) (hi:i < l.length) (k0:¬ (tk l i).kind=1) (ax:isT l i kHavoc=true) (res) (h:(bindR (ended l d (bindR (pName l d (i+1)) fun n j=>okR (sdE 2 n []) j)) fun s j=>okR [s] j)=some res):goalT 44 [.ptr r 0] (rdS l r i d 0) d (rdS l r) res:=by
 have wt:=wf.toWfT
 have wl:=wt.len
 have AE:=allE l wf n
 have I:=now_spec r l i d 0 hi
 have hi1:=wt.more i hi (isT_kind ax)
 have Y:=may_yes r l i d 0 kHavoc wt hi ax
 by_cases k1:(tk l (i+1)).kind=1
 rotate_left
 ·unfold pName at h
  rw [if_neg k1] at h
  cases h
  have C:=name_no r l (i+1) d 0 hi1 k1
  show To _ _ _ (.pan failV) _
  clear IH AE
  unfold rdS rd at *
  try unfold encS7 at *
  try unfold stV at *
  try unfold noS at *
  generalize (tk l i).kind=kk at *
  generalize (tk l i).text=t at *
  generalize ((tk l i).pos:Int)=p at *
  refine HCalls.to (sem_calls' cx (fn:=Tryz.f44) rfl rfl rfl rfl ?_)
  repeat' first|refine Ops.tag rfl ?_|(refine OpsT.go ?_;(conv=>arg 7;whnf))|((with_reducible refine Stp.isEq ?_);first|refine Stp.eqF ?_)|refine Stp.pure rfl ?_|refine PutK.mk' rfl ?_|refine Ops.nil ?_|((with_reducible refine Side.id ?_);first|refine Side.auto ?_)|((with_reducible refine Br.id ?_);first|(with_reducible first|refine br_true rfl ?_|refine br_false rfl ?_))|((with_reducible refine SemWp.id ?_);first|refine sem_seq ?_|refine sem_region rfl ?_|refine sem_cond rfl ?_|refine sem_block ?_)|((with_reducible refine qThen.id ?_);first|refine qThen.go ?_)|refine Stp.call ?_|refine Stp.eff ?_|((with_reducible refine CallWp.id ?_);first|(refine callA cx (I) ?_;(conv=>whnf))|(refine callA cx (Y) ?_;(conv=>whnf))|(refine callB cx (C) ?_;(conv=>whnf)))|(refine newN (fun r hr=>?_);simp only [keys,List.nil_append,List.cons_append,List.map_cons,List.map_nil,List.mem_cons,List.not_mem_nil,not_or,or_false,not_false_eq_true] at hr)|((with_reducible refine BodyR.id ?_);first|refine BodyR.pan ?_)
  refine Fin.mk ?_
  refine ⟨WeakerE.refl _,Subp.tk⟩
 ·unfold pName at h
  rw [if_pos k1] at h
  have C:=name_yes r l (i+1) d 0 wt hi1 k1
  have hj:=wt.more (i+1) hi1 (by omega)
  generalize (tk l (i+1)).text=nm at *
  have h:(bindR (bindR (if isT l (i+1+1) (tc 59)=true then okR () (i+1+1+1) else errR 4 (i+1+1) d) fun _ m=>okR (sdE 2 nm []) m) fun s j=>okR [s] j)=some res:=h
  cases b2:isT l (i+1+1) (tc 59) with
  |true=>
   rw [b2] at h
   cases h
   have E:=ended_ok r l wt (i+1+1) d hj b2 2 nm ⟨#[]⟩ (.v (.slice none 0 0)) (.v (.slice none 0 0)) (.v (.slice none 0 0)) (.v (.slice none 0 0)) ⟨rfl,rfl,rfl,rfl⟩
   refine ⟨.mk 2 nm noS [] [] [] [],rfl,?_⟩
   rw [encSDm]
   clear IH AE
   unfold rdS rd at *
   try unfold encS7 at *
   try unfold stV at *
   try unfold noS at *
   generalize (tk l i).kind=kk at *
   generalize (tk l i).text=t at *
   generalize ((tk l i).pos:Int)=p at *
   refine HCalls.to (sem_calls' cx (fn:=Tryz.f44) rfl rfl rfl rfl ?_)
   repeat' first|refine Ops.tag rfl ?_|(refine OpsT.go ?_;(conv=>arg 7;whnf))|((with_reducible refine Stp.isEq ?_);first|refine Stp.eqF ?_)|refine Stp.pure rfl ?_|((with_reducible refine PutK.isSet ?_);refine PutK.set (by repeat first|exact HsetIs.hit|apply HsetIs.miss (by first|(apply Ne.symm;assumption))) ?_)|refine PutK.mk' rfl ?_|refine Ops.nil ?_|((with_reducible refine Look.id ?_);refine Look.auto ?_ (by repeat first|exact HGet.hit|apply HGet.miss (by first|(apply Ne.symm;assumption)));try (conv=>arg 7;whnf))|((with_reducible refine Side.id ?_);first|refine Side.auto ?_)|((with_reducible refine Br.id ?_);first|(with_reducible first|refine br_true rfl ?_|refine br_false rfl ?_))|((with_reducible refine SemWp.id ?_);first|refine sem_seq ?_|refine sem_region rfl ?_|refine sem_cond rfl ?_|refine sem_block ?_|refine sem_ret ?_)|((with_reducible refine qThen.id ?_);first|refine qThen.go ?_|refine qThen.ret ?_)|((with_reducible refine hinBlock.id ?_);first|refine hinBlock.ret ?_)|refine Stp.look ?_|refine Stp.call ?_|refine Stp.eff ?_|((with_reducible refine CallWp.id ?_);first|(refine callA cx (I) ?_;(conv=>whnf))|(refine callA cx (Y) ?_;(conv=>whnf))|(refine callA cx (C) ?_;(conv=>whnf))|(refine callA cx (E) ?_;(conv=>whnf)))|(refine newN (fun r hr=>?_);simp only [keys,List.nil_append,List.cons_append,List.map_cons,List.map_nil,List.mem_cons,List.not_mem_nil,not_or,or_false,not_false_eq_true] at hr)|((with_reducible refine BodyR.id ?_);first|refine BodyR.ret ?_)|((with_reducible refine ResG.id ?_);first|refine ResG.cell rfl ?_|refine ResG.nil ?_)|((with_reducible refine LoadIs.id ?_);first|refine LoadIs.agg (by repeat first|exact HGet.hit|apply HGet.miss (by first|(apply Ne.symm;assumption))) rfl rfl rfl ?_)|((with_reducible refine Upd.id ?_);first|(refine Upd.lit rfl ?_;(conv=>whnf)))
   refine Fin.mk ?_
   refine ⟨(by refine WeakerE.ret (Weaker.agg ?_);(repeat first|exact WeakerC.nil|refine WeakerC.cons ?_ rfl ?_|exact Weaker.refl _|exact Weaker.nil _|exact Weaker.tok _ _ _)),Subp.tk⟩
  |false=>
   rw [b2] at h
   cases h
   have E:=ended_no r l (i+1+1) d hj b2 2 nm ⟨#[]⟩ (.v (.slice none 0 0)) (.v (.slice none 0 0)) (.v (.slice none 0 0)) (.v (.slice none 0 0)) ⟨rfl,rfl,rfl,rfl⟩
   show To _ _ _ (.pan failV) _
   clear IH AE
   unfold rdS rd at *
   try unfold encS7 at *
   try unfold stV at *
   try unfold noS at *
   generalize (tk l i).kind=kk at *
   generalize (tk l i).text=t at *
   generalize ((tk l i).pos:Int)=p at *
   refine HCalls.to (sem_calls' cx (fn:=Tryz.f44) rfl rfl rfl rfl ?_)
   repeat' first|refine Ops.tag rfl ?_|(refine OpsT.go ?_;(conv=>arg 7;whnf))|((with_reducible refine Stp.isEq ?_);first|refine Stp.eqF ?_)|refine Stp.pure rfl ?_|refine PutK.mk' rfl ?_|refine Ops.nil ?_|((with_reducible refine Side.id ?_);first|refine Side.auto ?_)|((with_reducible refine Br.id ?_);first|(with_reducible first|refine br_true rfl ?_|refine br_false rfl ?_))|((with_reducible refine SemWp.id ?_);first|refine sem_seq ?_|refine sem_region rfl ?_|refine sem_cond rfl ?_|refine sem_block ?_)|((with_reducible refine qThen.id ?_);first|refine qThen.go ?_)|refine Stp.call ?_|refine Stp.eff ?_|((with_reducible refine CallWp.id ?_);first|(refine callA cx (I) ?_;(conv=>whnf))|(refine callA cx (Y) ?_;(conv=>whnf))|(refine callA cx (C) ?_;(conv=>whnf))|(refine callB cx (E) ?_;(conv=>whnf)))|(refine newN (fun r hr=>?_);simp only [keys,List.nil_append,List.cons_append,List.map_cons,List.map_nil,List.mem_cons,List.not_mem_nil,not_or,or_false,not_false_eq_true] at hr)|((with_reducible refine BodyR.id ?_);first|refine BodyR.pan ?_)
   refine Fin.mk ?_
   refine ⟨WeakerE.refl _,Subp.tk⟩
set_option maxHeartbeats 4000000 in
theorem st_assume (l:List Tk) (wf:WfN l) (n:Nat) (IH:AllS l n) (r:Nat) (d:Int) (h0:0≤d) (h1:d≤50) (i:Nat) (hi:i < l.length) (k0:¬ (tk l i).kind=1) (aHavoc:isT l i kHavoc=false) (ax:isT l i kAssume=true) (res) (h:(bindR (ended l d (bindR (pE l n .cond d (i+1)) fun e j=>okR (sdE 3 noS (e.flat 0)) j)) fun s j=>okR [s] j)=some res):goalT 44 [.ptr r 0] (rdS l r i d 0) d (rdS l r) res:=by
 have wt:=wf.toWfT
 have wl:=wt.len
 have AE:=allE l wf n
 have I:=now_spec r l i d 0 hi
 have hi1:=wt.more i hi (isT_kind ax)
 have NHavoc:=may_no r l i d 0 kHavoc hi aHavoc
 have Y:=may_yes r l i d 0 kAssume wt hi ax
 cases hb:pE l n .cond d (i+1) with
 |none=>rw [hb] at h;cases h
 |some r1=>
 rw [hb] at h
 have C:=AE.cond n (Nat.le_refl _) r d (i+1) r1 hi1 h0 h1 hb
 cases r1 with
 |error x=>
  obtain ⟨c,j,d'⟩:=x
  cases h
  have C:To 50 [.ptr r 0] [(r,rd l (i+1:Nat) d 0)] (.pan failV) [(r,rd l j d' c)]:=C
  show To _ _ _ (.pan failV) _
  clear IH AE
  unfold rdS rd at *
  try unfold encS7 at *
  try unfold stV at *
  try unfold noS at *
  generalize (tk l i).kind=kk at *
  generalize (tk l i).text=t at *
  generalize ((tk l i).pos:Int)=p at *
  refine HCalls.to (sem_calls' cx (fn:=Tryz.f44) rfl rfl rfl rfl ?_)
  repeat' first|refine Ops.tag rfl ?_|(refine OpsT.go ?_;(conv=>arg 7;whnf))|((with_reducible refine Stp.isEq ?_);first|refine Stp.eqF ?_)|refine Stp.pure rfl ?_|refine PutK.mk' rfl ?_|refine Ops.nil ?_|((with_reducible refine Side.id ?_);first|refine Side.auto ?_)|((with_reducible refine Br.id ?_);first|(with_reducible first|refine br_true rfl ?_|refine br_false rfl ?_))|((with_reducible refine SemWp.id ?_);first|refine sem_seq ?_|refine sem_region rfl ?_|refine sem_cond rfl ?_|refine sem_block ?_)|((with_reducible refine qThen.id ?_);first|refine qThen.go ?_)|refine Stp.call ?_|refine Stp.eff ?_|((with_reducible refine CallWp.id ?_);first|(refine callA cx (I) ?_;(conv=>whnf))|(refine callA cx (NHavoc) ?_;(conv=>whnf))|(refine callA cx (Y) ?_;(conv=>whnf))|(refine callB cx (C) ?_;(conv=>whnf)))|(refine newN (fun r hr=>?_);simp only [keys,List.nil_append,List.cons_append,List.map_cons,List.map_nil,List.mem_cons,List.not_mem_nil,not_or,or_false,not_false_eq_true] at hr)|((with_reducible refine BodyR.id ?_);first|refine BodyR.pan ?_)
  refine Fin.mk ?_
  refine ⟨WeakerE.refl _,Subp.tk⟩
 |ok x=>
  obtain ⟨x,j⟩:=x
  have C:ToOwn cx.P 50 [.ptr r 0] [(r,rd l (i+1:Nat) d 0)] 5 ((x.flat 0).map encN) [(r,rd l j d 0)]:=C
  have hj:=(pE_facts wt n _ d (i+1) x j hi1 hb).1
  have h:(bindR (bindR (if isT l j (tc 59)=true then okR () (j+1) else errR 4 j d) fun _ m=>okR (sdE 3 noS (x.flat 0)) m) fun s j=>okR [s] j)=some res:=h
  generalize x.flat 0=xf at *
  cases b2:isT l j (tc 59) with
  |true=>
   rw [b2] at h
   cases h
   have E:=fun rt=>ended_ok r l wt j d hj b2 3 ⟨#[]⟩ ⟨#[]⟩ (.list (.own rt 0) 5 (xf.map encN)) (.v (.slice none 0 0)) (.v (.slice none 0 0)) (.v (.slice none 0 0)) ⟨rfl,rfl,rfl,rfl⟩
   refine ⟨.mk 3 noS noS xf [] [] [],rfl,?_⟩
   rw [encSDm]
   clear IH AE
   unfold rdS rd at *
   try unfold encS7 at *
   try unfold stV at *
   try unfold noS at *
   generalize (tk l i).kind=kk at *
   generalize (tk l i).text=t at *
   generalize ((tk l i).pos:Int)=p at *
   refine HCalls.to (sem_calls' cx (fn:=Tryz.f44) rfl rfl rfl rfl ?_)
   repeat' first|refine Ops.tag rfl ?_|(refine OpsT.go ?_;(conv=>arg 7;whnf))|((with_reducible refine Stp.isEq ?_);first|refine Stp.eqF ?_)|refine Stp.pure rfl ?_|((with_reducible refine PutK.isSet ?_);refine PutK.set (by repeat first|exact HsetIs.hit|apply HsetIs.miss (by first|(apply Ne.symm;assumption)|omega)) ?_)|refine PutK.mk' rfl ?_|refine Ops.nil ?_|((with_reducible refine Look.id ?_);refine Look.auto ?_ (by repeat first|exact HGet.hit|apply HGet.miss (by first|(apply Ne.symm;assumption)|omega));try (conv=>arg 7;whnf))|((with_reducible refine Side.id ?_);first|refine Side.auto ?_)|((with_reducible refine Br.id ?_);first|(with_reducible first|refine br_true rfl ?_|refine br_false rfl ?_))|((with_reducible refine SemWp.id ?_);first|refine sem_seq ?_|refine sem_region rfl ?_|refine sem_cond rfl ?_|refine sem_block ?_|refine sem_ret ?_)|((with_reducible refine qThen.id ?_);first|refine qThen.go ?_|refine qThen.ret ?_)|((with_reducible refine hinBlock.id ?_);first|refine hinBlock.ret ?_)|refine Stp.look ?_|refine Stp.call ?_|refine Stp.eff ?_|((with_reducible refine CallWp.id ?_);first|(refine callA cx (I) ?_;(conv=>whnf))|(refine callA cx (NHavoc) ?_;(conv=>whnf))|(refine callA cx (Y) ?_;(conv=>whnf))|(refine callTO cx (C) (by repeat first|exact HTake.nil|(apply HTake.cons;focus (repeat first|exact HPick.hit))) (fun rt hrt=>?_);simp only [keys,List.nil_append,List.cons_append,List.map_cons,List.map_nil,List.mem_cons,List.not_mem_nil,not_or,or_false,not_false_eq_true] at hrt;(conv=>whnf))|(refine callA cx (E rt) ?_;(conv=>whnf)))|(refine newN (fun r hr=>?_);simp only [keys,List.nil_append,List.cons_append,List.map_cons,List.map_nil,List.mem_cons,List.not_mem_nil,not_or,or_false,not_false_eq_true] at hr)|((with_reducible refine BodyR.id ?_);first|refine BodyR.ret ?_)|((with_reducible refine ResG.id ?_);first|refine ResG.cell rfl ?_|refine ResG.nil ?_)|((with_reducible refine LoadIs.id ?_);first|refine LoadIs.agg (by repeat first|exact HGet.hit|apply HGet.miss (by first|(apply Ne.symm;assumption)|omega)) rfl rfl rfl ?_)|((with_reducible refine Upd.id ?_);first|(refine Upd.lit rfl ?_;(conv=>whnf)))
   refine Fin.mk ?_
   refine ⟨(by refine WeakerE.ret (Weaker.agg ?_);(repeat first|exact WeakerC.nil|refine WeakerC.cons ?_ rfl ?_|exact Weaker.refl _|exact Weaker.nil _|exact Weaker.tok _ _ _)),Subp.tk⟩
  |false=>
   rw [b2] at h
   cases h
   have E:=fun rt=>ended_no r l j d hj b2 3 ⟨#[]⟩ ⟨#[]⟩ (.list (.own rt 0) 5 (xf.map encN)) (.v (.slice none 0 0)) (.v (.slice none 0 0)) (.v (.slice none 0 0)) ⟨rfl,rfl,rfl,rfl⟩
   show To _ _ _ (.pan failV) _
   clear IH AE
   unfold rdS rd at *
   try unfold encS7 at *
   try unfold stV at *
   try unfold noS at *
   generalize (tk l i).kind=kk at *
   generalize (tk l i).text=t at *
   generalize ((tk l i).pos:Int)=p at *
   refine HCalls.to (sem_calls' cx (fn:=Tryz.f44) rfl rfl rfl rfl ?_)
   repeat' first|refine Ops.tag rfl ?_|(refine OpsT.go ?_;(conv=>arg 7;whnf))|((with_reducible refine Stp.isEq ?_);first|refine Stp.eqF ?_)|refine Stp.pure rfl ?_|refine PutK.mk' rfl ?_|refine Ops.nil ?_|((with_reducible refine Side.id ?_);first|refine Side.auto ?_)|((with_reducible refine Br.id ?_);first|(with_reducible first|refine br_true rfl ?_|refine br_false rfl ?_))|((with_reducible refine SemWp.id ?_);first|refine sem_seq ?_|refine sem_region rfl ?_|refine sem_cond rfl ?_|refine sem_block ?_)|((with_reducible refine qThen.id ?_);first|refine qThen.go ?_)|refine Stp.call ?_|refine Stp.eff ?_|((with_reducible refine CallWp.id ?_);first|(refine callA cx (I) ?_;(conv=>whnf))|(refine callA cx (NHavoc) ?_;(conv=>whnf))|(refine callA cx (Y) ?_;(conv=>whnf))|(refine callTO cx (C) (by repeat first|exact HTake.nil|(apply HTake.cons;focus (repeat first|exact HPick.hit))) (fun rt hrt=>?_);simp only [keys,List.nil_append,List.cons_append,List.map_cons,List.map_nil,List.mem_cons,List.not_mem_nil,not_or,or_false,not_false_eq_true] at hrt;(conv=>whnf))|(refine callB cx (E rt) ?_;(conv=>whnf)))|(refine newN (fun r hr=>?_);simp only [keys,List.nil_append,List.cons_append,List.map_cons,List.map_nil,List.mem_cons,List.not_mem_nil,not_or,or_false,not_false_eq_true] at hr)|((with_reducible refine BodyR.id ?_);first|refine BodyR.pan ?_)
   refine Fin.mk ?_
   refine ⟨WeakerE.refl _,Subp.tk⟩
set_option maxHeartbeats 4000000 in
theorem st_assert (l:List Tk) (wf:WfN l) (n:Nat) (IH:AllS l n) (r:Nat) (d:Int) (h0:0≤d) (h1:d≤50) (i:Nat) (hi:i < l.length) (k0:¬ (tk l i).kind=1) (aHavoc:isT l i kHavoc=false) (aAssume:isT l i kAssume=false) (ax:isT l i kAssert=true) (res) (h:(bindR (ended l d (bindR (pE l n .cond d (i+1)) fun e j=>okR (sdE 4 noS (e.flat 0)) j)) fun s j=>okR [s] j)=some res):goalT 44 [.ptr r 0] (rdS l r i d 0) d (rdS l r) res:=by
 have wt:=wf.toWfT
 have wl:=wt.len
 have AE:=allE l wf n
 have I:=now_spec r l i d 0 hi
 have hi1:=wt.more i hi (isT_kind ax)
 have NHavoc:=may_no r l i d 0 kHavoc hi aHavoc
 have NAssume:=may_no r l i d 0 kAssume hi aAssume
 have Y:=may_yes r l i d 0 kAssert wt hi ax
 cases hb:pE l n .cond d (i+1) with
 |none=>rw [hb] at h;cases h
 |some r1=>
 rw [hb] at h
 have C:=AE.cond n (Nat.le_refl _) r d (i+1) r1 hi1 h0 h1 hb
 cases r1 with
 |error x=>
  obtain ⟨c,j,d'⟩:=x
  cases h
  have C:To 50 [.ptr r 0] [(r,rd l (i+1:Nat) d 0)] (.pan failV) [(r,rd l j d' c)]:=C
  show To _ _ _ (.pan failV) _
  clear IH AE
  unfold rdS rd at *
  try unfold encS7 at *
  try unfold stV at *
  try unfold noS at *
  generalize (tk l i).kind=kk at *
  generalize (tk l i).text=t at *
  generalize ((tk l i).pos:Int)=p at *
  refine HCalls.to (sem_calls' cx (fn:=Tryz.f44) rfl rfl rfl rfl ?_)
  repeat' first|refine Ops.tag rfl ?_|(refine OpsT.go ?_;(conv=>arg 7;whnf))|((with_reducible refine Stp.isEq ?_);first|refine Stp.eqF ?_)|refine Stp.pure rfl ?_|refine PutK.mk' rfl ?_|refine Ops.nil ?_|((with_reducible refine Side.id ?_);first|refine Side.auto ?_)|((with_reducible refine Br.id ?_);first|(with_reducible first|refine br_true rfl ?_|refine br_false rfl ?_))|((with_reducible refine SemWp.id ?_);first|refine sem_seq ?_|refine sem_region rfl ?_|refine sem_cond rfl ?_|refine sem_block ?_)|((with_reducible refine qThen.id ?_);first|refine qThen.go ?_)|refine Stp.call ?_|refine Stp.eff ?_|((with_reducible refine CallWp.id ?_);first|(refine callA cx (I) ?_;(conv=>whnf))|(refine callA cx (NHavoc) ?_;(conv=>whnf))|(refine callA cx (NAssume) ?_;(conv=>whnf))|(refine callA cx (Y) ?_;(conv=>whnf))|(refine callB cx (C) ?_;(conv=>whnf)))|(refine newN (fun r hr=>?_);simp only [keys,List.nil_append,List.cons_append,List.map_cons,List.map_nil,List.mem_cons,List.not_mem_nil,not_or,or_false,not_false_eq_true] at hr)|((with_reducible refine BodyR.id ?_);first|refine BodyR.pan ?_)
  refine Fin.mk ?_
  refine ⟨WeakerE.refl _,Subp.tk⟩
 |ok x=>
  obtain ⟨x,j⟩:=x
  have C:ToOwn cx.P 50 [.ptr r 0] [(r,rd l (i+1:Nat) d 0)] 5 ((x.flat 0).map encN) [(r,rd l j d 0)]:=C
  have hj:=(pE_facts wt n _ d (i+1) x j hi1 hb).1
  have h:(bindR (bindR (if isT l j (tc 59)=true then okR () (j+1) else errR 4 j d) fun _ m=>okR (sdE 4 noS (x.flat 0)) m) fun s j=>okR [s] j)=some res:=h
  generalize x.flat 0=xf at *
  cases b2:isT l j (tc 59) with
  |true=>
   rw [b2] at h
   cases h
   have E:=fun rt=>ended_ok r l wt j d hj b2 4 ⟨#[]⟩ ⟨#[]⟩ (.list (.own rt 0) 5 (xf.map encN)) (.v (.slice none 0 0)) (.v (.slice none 0 0)) (.v (.slice none 0 0)) ⟨rfl,rfl,rfl,rfl⟩
   refine ⟨.mk 4 noS noS xf [] [] [],rfl,?_⟩
   rw [encSDm]
   clear IH AE
   unfold rdS rd at *
   try unfold encS7 at *
   try unfold stV at *
   try unfold noS at *
   generalize (tk l i).kind=kk at *
   generalize (tk l i).text=t at *
   generalize ((tk l i).pos:Int)=p at *
   refine HCalls.to (sem_calls' cx (fn:=Tryz.f44) rfl rfl rfl rfl ?_)
   repeat' first|refine Ops.tag rfl ?_|(refine OpsT.go ?_;(conv=>arg 7;whnf))|((with_reducible refine Stp.isEq ?_);first|refine Stp.eqF ?_)|refine Stp.pure rfl ?_|((with_reducible refine PutK.isSet ?_);refine PutK.set (by repeat first|exact HsetIs.hit|apply HsetIs.miss (by first|(apply Ne.symm;assumption)|omega)) ?_)|refine PutK.mk' rfl ?_|refine Ops.nil ?_|((with_reducible refine Look.id ?_);refine Look.auto ?_ (by repeat first|exact HGet.hit|apply HGet.miss (by first|(apply Ne.symm;assumption)|omega));try (conv=>arg 7;whnf))|((with_reducible refine Side.id ?_);first|refine Side.auto ?_)|((with_reducible refine Br.id ?_);first|(with_reducible first|refine br_true rfl ?_|refine br_false rfl ?_))|((with_reducible refine SemWp.id ?_);first|refine sem_seq ?_|refine sem_region rfl ?_|refine sem_cond rfl ?_|refine sem_block ?_|refine sem_ret ?_)|((with_reducible refine qThen.id ?_);first|refine qThen.go ?_|refine qThen.ret ?_)|((with_reducible refine hinBlock.id ?_);first|refine hinBlock.ret ?_)|refine Stp.look ?_|refine Stp.call ?_|refine Stp.eff ?_|((with_reducible refine CallWp.id ?_);first|(refine callA cx (I) ?_;(conv=>whnf))|(refine callA cx (NHavoc) ?_;(conv=>whnf))|(refine callA cx (NAssume) ?_;(conv=>whnf))|(refine callA cx (Y) ?_;(conv=>whnf))|(refine callTO cx (C) (by repeat first|exact HTake.nil|(apply HTake.cons;focus (repeat first|exact HPick.hit))) (fun rt hrt=>?_);simp only [keys,List.nil_append,List.cons_append,List.map_cons,List.map_nil,List.mem_cons,List.not_mem_nil,not_or,or_false,not_false_eq_true] at hrt;(conv=>whnf))|(refine callA cx (E rt) ?_;(conv=>whnf)))|(refine newN (fun r hr=>?_);simp only [keys,List.nil_append,List.cons_append,List.map_cons,List.map_nil,List.mem_cons,List.not_mem_nil,not_or,or_false,not_false_eq_true] at hr)|((with_reducible refine BodyR.id ?_);first|refine BodyR.ret ?_)|((with_reducible refine ResG.id ?_);first|refine ResG.cell rfl ?_|refine ResG.nil ?_)|((with_reducible refine LoadIs.id ?_);first|refine LoadIs.agg (by repeat first|exact HGet.hit|apply HGet.miss (by first|(apply Ne.symm;assumption)|omega)) rfl rfl rfl ?_)|((with_reducible refine Upd.id ?_);first|(refine Upd.lit rfl ?_;(conv=>whnf)))
   refine Fin.mk ?_
   refine ⟨(by refine WeakerE.ret (Weaker.agg ?_);(repeat first|exact WeakerC.nil|refine WeakerC.cons ?_ rfl ?_|exact Weaker.refl _|exact Weaker.nil _|exact Weaker.tok _ _ _)),Subp.tk⟩
  |false=>
   rw [b2] at h
   cases h
   have E:=fun rt=>ended_no r l j d hj b2 4 ⟨#[]⟩ ⟨#[]⟩ (.list (.own rt 0) 5 (xf.map encN)) (.v (.slice none 0 0)) (.v (.slice none 0 0)) (.v (.slice none 0 0)) ⟨rfl,rfl,rfl,rfl⟩
   show To _ _ _ (.pan failV) _
   clear IH AE
   unfold rdS rd at *
   try unfold encS7 at *
   try unfold stV at *
   try unfold noS at *
   generalize (tk l i).kind=kk at *
   generalize (tk l i).text=t at *
   generalize ((tk l i).pos:Int)=p at *
   refine HCalls.to (sem_calls' cx (fn:=Tryz.f44) rfl rfl rfl rfl ?_)
   repeat' first|refine Ops.tag rfl ?_|(refine OpsT.go ?_;(conv=>arg 7;whnf))|((with_reducible refine Stp.isEq ?_);first|refine Stp.eqF ?_)|refine Stp.pure rfl ?_|refine PutK.mk' rfl ?_|refine Ops.nil ?_|((with_reducible refine Side.id ?_);first|refine Side.auto ?_)|((with_reducible refine Br.id ?_);first|(with_reducible first|refine br_true rfl ?_|refine br_false rfl ?_))|((with_reducible refine SemWp.id ?_);first|refine sem_seq ?_|refine sem_region rfl ?_|refine sem_cond rfl ?_|refine sem_block ?_)|((with_reducible refine qThen.id ?_);first|refine qThen.go ?_)|refine Stp.call ?_|refine Stp.eff ?_|((with_reducible refine CallWp.id ?_);first|(refine callA cx (I) ?_;(conv=>whnf))|(refine callA cx (NHavoc) ?_;(conv=>whnf))|(refine callA cx (NAssume) ?_;(conv=>whnf))|(refine callA cx (Y) ?_;(conv=>whnf))|(refine callTO cx (C) (by repeat first|exact HTake.nil|(apply HTake.cons;focus (repeat first|exact HPick.hit))) (fun rt hrt=>?_);simp only [keys,List.nil_append,List.cons_append,List.map_cons,List.map_nil,List.mem_cons,List.not_mem_nil,not_or,or_false,not_false_eq_true] at hrt;(conv=>whnf))|(refine callB cx (E rt) ?_;(conv=>whnf)))|(refine newN (fun r hr=>?_);simp only [keys,List.nil_append,List.cons_append,List.map_cons,List.map_nil,List.mem_cons,List.not_mem_nil,not_or,or_false,not_false_eq_true] at hr)|((with_reducible refine BodyR.id ?_);first|refine BodyR.pan ?_)
   refine Fin.mk ?_
   refine ⟨WeakerE.refl _,Subp.tk⟩
set_option maxHeartbeats 4000000 in
theorem st_skip (l:List Tk) (wf:WfN l) (n:Nat) (IH:AllS l n) (r:Nat) (d:Int) (h0:0≤d) (h1:d≤50) (i:Nat) (hi:i < l.length) (k0:¬ (tk l i).kind=1) (aHavoc:isT l i kHavoc=false) (aAssume:isT l i kAssume=false) (aAssert:isT l i kAssert=false) (ax:isT l i kSkip=true) (res) (h:(bindR (ended l d (okR (sdE 9 noS []) (i+1))) fun s j=>okR [s] j)=some res):goalT 44 [.ptr r 0] (rdS l r i d 0) d (rdS l r) res:=by
 have wt:=wf.toWfT
 have wl:=wt.len
 have AE:=allE l wf n
 have I:=now_spec r l i d 0 hi
 have hi1:=wt.more i hi (isT_kind ax)
 have NHavoc:=may_no r l i d 0 kHavoc hi aHavoc
 have NAssume:=may_no r l i d 0 kAssume hi aAssume
 have NAssert:=may_no r l i d 0 kAssert hi aAssert
 have Y:=may_yes r l i d 0 kSkip wt hi ax
 have hj:=hi1
 have h:(bindR (bindR (if isT l (i+1) (tc 59)=true then okR () (i+1+1) else errR 4 (i+1) d) fun _ m=>okR (sdE 9 noS []) m) fun s j=>okR [s] j)=some res:=h
 cases b2:isT l (i+1) (tc 59) with
 |true=>
  rw [b2] at h
  cases h
  have E:=ended_ok r l wt (i+1) d hj b2 9 ⟨#[]⟩ ⟨#[]⟩ (.v (.slice none 0 0)) (.v (.slice none 0 0)) (.v (.slice none 0 0)) (.v (.slice none 0 0)) ⟨rfl,rfl,rfl,rfl⟩
  refine ⟨.mk 9 noS noS [] [] [] [],rfl,?_⟩
  rw [encSDm]
  clear IH AE
  unfold rdS rd at *
  try unfold encS7 at *
  try unfold stV at *
  try unfold noS at *
  generalize (tk l i).kind=kk at *
  generalize (tk l i).text=t at *
  generalize ((tk l i).pos:Int)=p at *
  refine HCalls.to (sem_calls' cx (fn:=Tryz.f44) rfl rfl rfl rfl ?_)
  repeat' first|refine Ops.tag rfl ?_|(refine OpsT.go ?_;(conv=>arg 7;whnf))|((with_reducible refine Stp.isEq ?_);first|refine Stp.eqF ?_)|refine Stp.pure rfl ?_|((with_reducible refine PutK.isSet ?_);refine PutK.set (by repeat first|exact HsetIs.hit|apply HsetIs.miss (by first|(apply Ne.symm;assumption))) ?_)|refine PutK.mk' rfl ?_|refine Ops.nil ?_|((with_reducible refine Look.id ?_);refine Look.auto ?_ (by repeat first|exact HGet.hit|apply HGet.miss (by first|(apply Ne.symm;assumption)));try (conv=>arg 7;whnf))|((with_reducible refine Side.id ?_);first|refine Side.auto ?_)|((with_reducible refine Br.id ?_);first|(with_reducible first|refine br_true rfl ?_|refine br_false rfl ?_))|((with_reducible refine SemWp.id ?_);first|refine sem_seq ?_|refine sem_region rfl ?_|refine sem_cond rfl ?_|refine sem_block ?_|refine sem_ret ?_)|((with_reducible refine qThen.id ?_);first|refine qThen.go ?_|refine qThen.ret ?_)|((with_reducible refine hinBlock.id ?_);first|refine hinBlock.ret ?_)|refine Stp.look ?_|refine Stp.call ?_|refine Stp.eff ?_|((with_reducible refine CallWp.id ?_);first|(refine callA cx (I) ?_;(conv=>whnf))|(refine callA cx (NHavoc) ?_;(conv=>whnf))|(refine callA cx (NAssume) ?_;(conv=>whnf))|(refine callA cx (NAssert) ?_;(conv=>whnf))|(refine callA cx (Y) ?_;(conv=>whnf))|(refine callA cx (E) ?_;(conv=>whnf)))|(refine newN (fun r hr=>?_);simp only [keys,List.nil_append,List.cons_append,List.map_cons,List.map_nil,List.mem_cons,List.not_mem_nil,not_or,or_false,not_false_eq_true] at hr)|((with_reducible refine BodyR.id ?_);first|refine BodyR.ret ?_)|((with_reducible refine ResG.id ?_);first|refine ResG.cell rfl ?_|refine ResG.nil ?_)|((with_reducible refine LoadIs.id ?_);first|refine LoadIs.agg (by repeat first|exact HGet.hit|apply HGet.miss (by first|(apply Ne.symm;assumption))) rfl rfl rfl ?_)|((with_reducible refine Upd.id ?_);first|(refine Upd.lit rfl ?_;(conv=>whnf)))
  refine Fin.mk ?_
  refine ⟨(by refine WeakerE.ret (Weaker.agg ?_);(repeat first|exact WeakerC.nil|refine WeakerC.cons ?_ rfl ?_|exact Weaker.refl _|exact Weaker.nil _|exact Weaker.tok _ _ _)),Subp.tk⟩
 |false=>
  rw [b2] at h
  cases h
  have E:=ended_no r l (i+1) d hj b2 9 ⟨#[]⟩ ⟨#[]⟩ (.v (.slice none 0 0)) (.v (.slice none 0 0)) (.v (.slice none 0 0)) (.v (.slice none 0 0)) ⟨rfl,rfl,rfl,rfl⟩
  show To _ _ _ (.pan failV) _
  clear IH AE
  unfold rdS rd at *
  try unfold encS7 at *
  try unfold stV at *
  try unfold noS at *
  generalize (tk l i).kind=kk at *
  generalize (tk l i).text=t at *
  generalize ((tk l i).pos:Int)=p at *
  refine HCalls.to (sem_calls' cx (fn:=Tryz.f44) rfl rfl rfl rfl ?_)
  repeat' first|refine Ops.tag rfl ?_|(refine OpsT.go ?_;(conv=>arg 7;whnf))|((with_reducible refine Stp.isEq ?_);first|refine Stp.eqF ?_)|refine Stp.pure rfl ?_|refine PutK.mk' rfl ?_|refine Ops.nil ?_|((with_reducible refine Side.id ?_);first|refine Side.auto ?_)|((with_reducible refine Br.id ?_);first|(with_reducible first|refine br_true rfl ?_|refine br_false rfl ?_))|((with_reducible refine SemWp.id ?_);first|refine sem_seq ?_|refine sem_region rfl ?_|refine sem_cond rfl ?_|refine sem_block ?_)|((with_reducible refine qThen.id ?_);first|refine qThen.go ?_)|refine Stp.call ?_|refine Stp.eff ?_|((with_reducible refine CallWp.id ?_);first|(refine callA cx (I) ?_;(conv=>whnf))|(refine callA cx (NHavoc) ?_;(conv=>whnf))|(refine callA cx (NAssume) ?_;(conv=>whnf))|(refine callA cx (NAssert) ?_;(conv=>whnf))|(refine callA cx (Y) ?_;(conv=>whnf))|(refine callB cx (E) ?_;(conv=>whnf)))|(refine newN (fun r hr=>?_);simp only [keys,List.nil_append,List.cons_append,List.map_cons,List.map_nil,List.mem_cons,List.not_mem_nil,not_or,or_false,not_false_eq_true] at hr)|((with_reducible refine BodyR.id ?_);first|refine BodyR.pan ?_)
  refine Fin.mk ?_
  refine ⟨WeakerE.refl _,Subp.tk⟩
end Go.Proofs.Hk

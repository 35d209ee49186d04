import Derived.Test.YtcihapdaapkdjaaGreatDoorQ3
import Derived.Test.YtcihapdaapkdjaaGreatDoorH41
set_option linter.unusedSimpArgs false
set_option linter.unusedVariables false
set_option maxRecDepth 4000
namespace Go.Proofs.Hk
open Go Go.Proofs
def numL (l:List UInt8):Int:=l.foldl (fun n b=>10 * n+((b.toNat:Int) - 48)) 0
structure DigS (s:ByteArray):Prop where
 lo:1≤s.size
 hi:s.size≤9
 dig:∀ x∈s.data.toList,48≤x.toNat∧x.toNat≤57
theorem numL_succ {l:List UInt8} {j:Nat} (h:j < l.length):numL (l.take (j+1))=10 * numL (l.take j)+((l[j].toNat:Int) - 48):=by
 unfold numL
 rw [List.take_succ_eq_append_getElem h,List.foldl_append]
 rfl
theorem numL_bound {l:List UInt8} (h:∀ x∈l,48≤x.toNat∧x.toNat≤57):∀ j,j≤l.length→0≤numL (l.take j)∧numL (l.take j) < 10 ^ j
 |0,_=>by simp [numL]
 |j+1,hj=>by
  have ih:=numL_bound h j (by omega)
  have hd:=h _ (List.getElem_mem (show j < l.length by omega))
  rw [numL_succ (by omega),Int.pow_succ]
  omega
theorem numL_small {l:List UInt8} (h:∀ x∈l,48≤x.toNat∧x.toNat≤57) {j:Nat} (hj:j≤l.length) (h9:l.length≤9):0≤numL (l.take j)∧numL (l.take j)≤1000000000:=by
 have:=numL_bound h j hj
 have h2:(10:Int) ^ j≤10 ^ 9:=by
  have:(10:Nat) ^ j≤10 ^ 9:=Nat.pow_le_pow_right (by omega) (by omega)
  exact_mod_cast this
 omega
theorem byteAt_dig {s:ByteArray} (h:DigS s):48≤byteAt s 0∧byteAt s 0≤57:=by
 have hl:0 < s.data.toList.length:=by
  have e:s.data.toList.length=s.size:=by simp
  have:=h.lo
  omega
 have:=h.dig _ (List.getElem_mem hl)
 unfold byteAt
 simp only [Int.toNat_zero,List.getD_eq_getElem?_getD,List.getElem?_eq_getElem hl,Option.getD_some]
 omega
set_option maxHeartbeats 2000000 in
theorem iatoi_spec (s:ByteArray) (h:DigS s):Pur cx 80 [ss s] (.tup [ii (numS s),.v .nilIface]):=by
 have h0:=byteAt_dig h
 have lo:=h.lo
 have hi:=h.hi
 have mb:(bytesL s).length=s.size:=by simp [bytesL]
 have ml:s.data.toList.length=s.size:=by simp
 refine Pur.of (sem_calls' cx (fn:=Tryz.f80) rfl rfl rfl rfl ?_)
 have n45:¬ byteAt s 0=45:=by omega
 have n43:¬ byteAt s 0=43:=by omega
 repeat' first|refine Ops.tag rfl ?_|((with_reducible first|refine OpsT.yes ?_|refine OpsT.yes' ?_);(conv=>arg 7;whnf))|(with_reducible first|refine OpsT.andF ?_|refine OpsT.no ?_)|(refine OpsT.go ?_;(conv=>arg 7;whnf))|(with_reducible first|refine Stp.orF ?_|refine Stp.andT ?_|refine Stp.andF ?_)|((with_reducible refine Stp.isDec ?_);first|refine Stp.decT ?_)|((with_reducible refine Stp.isEq ?_);first|refine Stp.eqF ?_)|refine Stp.pure rfl ?_|refine PutK.mk' rfl ?_|refine Ops.nil ?_|((with_reducible refine Side.id ?_);first|refine Side.auto ?_)|((with_reducible refine Br.id ?_);first|(with_reducible first|refine br_true rfl ?_|refine br_false rfl ?_))|((with_reducible refine SemWp.id ?_);first|refine sem_seq ?_|refine sem_region rfl ?_|refine sem_cond rfl ?_|refine sem_block ?_|refine sem_skip ?_)|((with_reducible refine qThen.id ?_);first|refine qThen.go ?_)|refine Stp.valS ?_
 refine sem_loop cx (ι:=Nat) (fun j=>j≤s.size) (fun j=>[(5,.sure,ss s),(6,.sure,ii (numL (s.data.toList.take j))),(47,.sure,.list .no 1 (bytesL s)),(48,.sure,ii (bytesL s).length),(49,.sure,ii j)]) (fun _=>[]) (fun j=>s.size - j) 0 (Nat.zero_le _) (Sub.cons rfl rfl (Sub.cons rfl rfl (Sub.cons rfl rfl (Sub.cons rfl rfl (Sub.cons rfl rfl (Sub.nil _)))))) (Subp.nil _) ?_
 intro j j1
 by_cases hj:j < s.size
 ·have hj':j < s.data.toList.length:=by omega
  have g:(bytesL s).getD (j:Int).toNat default = .v (.int .u8 (s.data.toList[j].toNat:Int)):=by
   simp [bytesL,List.getD_eq_getElem?_getD,hj]
  have dg:=h.dig _ (List.getElem_mem hj')
  have sm:=numL_small h.dig (j:=j) (by omega) (by omega)
  have nx:=numL_succ hj'
  generalize s.data.toList[j].toNat=x at *
  generalize numL (s.data.toList.take j)=n at *
  have w8:IntKind.u8.wrap ((x:Int) - 48)=(x:Int) - 48:=IntWalk.u8_in _ (by omega)
  repeat' first|rw [w8]|refine Ops.tag rfl ?_|(refine OpsT.go ?_;(conv=>arg 7;whnf))|((with_reducible refine Stp.isSum ?_);refine Stp.sum ?_)|((with_reducible refine Stp.isDec ?_);first|refine Stp.decT ?_|refine Stp.decF ?_)|refine Stp.pure rfl ?_|refine Ops.nil ?_|((with_reducible refine Side.id ?_);first|refine Side.auto ?_)|((with_reducible refine Br.id ?_);first|(with_reducible first|refine br_true rfl ?_|refine br_false rfl ?_))|((with_reducible refine SemWp.id ?_);first|refine sem_seq ?_|refine sem_region rfl ?_|refine sem_cond rfl ?_|refine sem_block ?_|refine sem_skip ?_)|((with_reducible refine qThen.id ?_);first|refine qThen.go ?_)|((with_reducible refine hinBlock.id ?_);first|refine hinBlock.go ?_)|((with_reducible refine hround.id ?_);first|refine hround.go ?_)|refine Stp.valS ?_|rw [g]
  exact Fin.mk ⟨j+1,by omega,by omega,Sub.cons rfl rfl (Sub.cons rfl (by rw [nx,Int.mul_comm];rfl) (Sub.cons rfl rfl (Sub.cons rfl rfl (Sub.cons rfl rfl (Sub.nil _))))),Subp.nil _⟩
 ·have:j=s.size:=by omega
  subst this
  have e:s.data.toList.take s.size=s.data.toList:=by rw [←ml,List.take_length]
  rw [e]
  repeat' first|refine Ops.tag rfl ?_|(refine OpsT.go ?_;(conv=>arg 7;whnf))|((with_reducible refine Stp.isDec ?_);first|refine Stp.decF ?_)|((with_reducible refine Stp.isEq ?_);first|refine Stp.eqF ?_)|refine Stp.pure rfl ?_|refine Ops.nil ?_|((with_reducible refine Side.id ?_);first|refine Side.auto ?_)|((with_reducible refine Br.id ?_);first|(with_reducible first|refine br_false rfl ?_))|((with_reducible refine SemWp.id ?_);first|refine sem_seq ?_|refine sem_region rfl ?_|refine sem_cond rfl ?_|refine sem_exit ?_|refine sem_ret ?_|refine sem_skip ?_)|((with_reducible refine qThen.id ?_);first|refine qThen.go ?_|refine qThen.ret ?_)|refine Stp.valS ?_|((with_reducible refine BodyR.id ?_);first|refine BodyR.ret ?_)|((with_reducible refine ResG.id ?_);first|refine ResG.tmp rfl ?_|refine ResG.nil ?_)
  exact Fin.mk rfl
theorem atoi_spec (s:ByteArray) (h:DigS s):Pur cx 78 [ss s] (.tup [ii (numS s),.v .nilIface]):=by
 have A:=iatoi_spec s h
 refine Pur.of (sem_calls' cx (fn:=Tryz.f78) rfl rfl rfl rfl ?_)
 repeat' first|refine Ops.tag rfl ?_|(refine OpsT.go ?_;(conv=>arg 7;whnf))|(with_reducible first|refine Stp.notT ?_)|refine Stp.pure rfl ?_|refine PutK.mk' rfl ?_|refine Ops.nil ?_|((with_reducible refine Side.id ?_);first|refine Side.auto ?_)|((with_reducible refine Br.id ?_);first|(with_reducible first|refine br_false rfl ?_))|((with_reducible refine SemWp.id ?_);first|refine sem_seq ?_|refine sem_region rfl ?_|refine sem_cond rfl ?_|refine sem_ret ?_|refine sem_skip ?_)|((with_reducible refine qThen.id ?_);first|refine qThen.go ?_)|refine Stp.call ?_|((with_reducible refine CallWp.id ?_);first|refine Pur.call (A) ?_)|((with_reducible refine BodyR.id ?_);first|refine BodyR.ret ?_)|((with_reducible refine ResG.id ?_);first|refine ResG.tmp rfl ?_|refine ResG.nil ?_)
 exact Fin.mk rfl
end Go.Proofs.Hk

set_option linter.unusedSimpArgs false
set_option linter.unusedVariables false
set_option maxRecDepth 4000
namespace Go.Proofs.Hk
open Go Go.Proofs
/-- What the lexer gives besides: numbers are digits; only signs and key words have a sign's text. -/
structure WfN (l:List Tk):Prop extends WfT l where
 num:∀ i,i < l.length→(tk l i).kind=2→DigS (tk l i).text
 word:∀ i,i < l.length→kOK l i=false→∀ s∈[tEq,tNe,tc 60,tLe,tc 62,tGe],strEq (tk l i).text s=false
/-- What is asked of all functions that read expressions, with so much fuel. -/
structure AllE (l:List Tk) (n:Nat):Prop where
 unary:∀ f,f≤n→∀ r d i res,i < l.length→0≤d→d≤50→pE l f .unary d i=some res→ExpR l 72 r d i res
 term:∀ f,f≤n→∀ r d i res,i < l.length→0≤d→d≤50→pE l f .term d i=some res→ExpR l 67 r d i res
 expr:∀ f,f≤n→∀ r d i res,i < l.length→0≤d→d≤50→pE l f .expr d i=some res→ExpR l 56 r d i res
 lit:∀ f,f≤n→∀ r d i res,i < l.length→0≤d→d≤50→pE l f .lit d i=some res→ExpR l 69 r d i res
 conj:∀ f,f≤n→∀ r d i res,i < l.length→0≤d→d≤50→pE l f .conj d i=some res→ExpR l 58 r d i res
 cond:∀ f,f≤n→∀ r d i res,i < l.length→0≤d→d≤50→pE l f .cond d i=some res→ExpR l 50 r d i res
theorem ne1 {c:UInt8} : (!strEq (tc c) ⟨#[]⟩)=true:=by
 rw [strEq_ne (a:=tc c) (b:=⟨#[]⟩) (by simp [tc])];rfl
set_option maxHeartbeats 4000000 in
theorem unary_lvl (l:List Tk) (wf:WfN l) (n:Nat) (IH:AllE l n) (r:Nat) (d:Int) (h0:0≤d) (h1:d≤50) (i:Nat) (hi:i < l.length) (res) (h:pE l (n+1) .unary d i=some res):ExpR l 72 r d i res:=by
 have N:=now_spec r l i d 0 hi
 have I1:=is_spec r l i d 0 (tc 45) hi
 have I2:=is_spec r l i d 0 (tc 40) hi
 simp only [pE] at h
 refine goalO.of ?_
 unfold rdS
 cases b1:isT l i (tc 45) with
 |true=>
  rw [b1] at h I1
  rw [if_pos rfl] at h
  by_cases hd:50≤d
  ·rw [if_pos hd] at h
   cases h
   have O:=open_deep r l i d 0 (tc 45) hi b1 hd
   clear I2
   unfold rd at *
   refine (sem_calls' cx (fn:=Tryz.f72) rfl rfl rfl rfl ?_)
   repeat' first|refine Ops.tag rfl ?_|(refine OpsT.go ?_;(conv=>arg 7;whnf))|refine Stp.pure rfl ?_|((with_reducible refine PutK.isSet ?_);refine PutK.st ?_)|refine PutK.mk' rfl ?_|refine Ops.nil ?_|((with_reducible refine Look.id ?_);refine Look.at ?_;try (conv=>arg 7;whnf))|((with_reducible refine Side.id ?_);first|refine Side.auto ?_)|((with_reducible refine Br.id ?_);first|(with_reducible first|refine br_true rfl ?_))|((with_reducible refine SemWp.id ?_);first|refine sem_seq ?_|refine sem_region rfl ?_|refine sem_cond rfl ?_|refine sem_block ?_)|((with_reducible refine qThen.id ?_);first|refine qThen.go ?_)|refine Stp.look ?_|refine Stp.call ?_|refine Stp.eff ?_|((with_reducible refine CallWp.id ?_);first|(refine callA cx (N) ?_;(conv=>whnf))|(refine callA cx (I1) ?_;(conv=>whnf))|(refine callB cx (O) ?_;(conv=>whnf)))|(refine newN (fun r hr=>?_);simp only [keys,List.nil_append,List.cons_append,List.map_cons,List.map_nil,List.mem_cons,List.not_mem_nil,not_or,or_false,not_false_eq_true] at hr)|((with_reducible refine BodyR.id ?_);first|refine BodyR.pan ?_)|((with_reducible refine Upd.id ?_);first|(refine Upd.lit rfl ?_;(conv=>whnf)))
   refine Fin.mk ?_
   refine ⟨WeakerE.refl _,Subp.tk⟩
  ·rw [if_neg hd] at h
   have O:=open_yes r l i d 0 (tc 45) wf.toWfT hi b1 hd h0
   have hi1:=wf.more i hi (isT_kind b1)
   cases hb:pE l n .unary (d+1) (i+1) with
   |none=>rw [hb] at h;cases h
   |some r1=>
   have C:=IH.unary n (Nat.le_refl _) r (d+1) (i+1) r1 hi1 (by omega) (by omega) hb
   rw [hb] at h
   cases r1 with
   |error x=>
    obtain ⟨c,j,d'⟩:=x
    cases h
    have C:To _ [.ptr r 0] [(r,rd l (i+1:Nat) (d+1) 0)] (.pan failV) [(r,rd l j d' c)]:=C
    clear I2 IH hb
    unfold rd at *
    refine (sem_calls' cx (fn:=Tryz.f72) rfl rfl rfl rfl ?_)
    repeat' first|refine Ops.tag rfl ?_|(refine OpsT.go ?_;(conv=>arg 7;whnf))|refine Stp.pure rfl ?_|((with_reducible refine PutK.isSet ?_);refine PutK.st ?_)|refine PutK.mk' rfl ?_|refine Ops.nil ?_|((with_reducible refine Look.id ?_);refine Look.at ?_;try (conv=>arg 7;whnf))|((with_reducible refine Side.id ?_);first|refine Side.auto ?_)|((with_reducible refine Br.id ?_);first|(with_reducible first|refine br_true rfl ?_))|((with_reducible refine SemWp.id ?_);first|refine sem_seq ?_|refine sem_region rfl ?_|refine sem_cond rfl ?_|refine sem_block ?_)|((with_reducible refine qThen.id ?_);first|refine qThen.go ?_)|refine Stp.look ?_|refine Stp.call ?_|refine Stp.eff ?_|((with_reducible refine CallWp.id ?_);first|(refine callA cx (N) ?_;(conv=>whnf))|(refine callA cx (I1) ?_;(conv=>whnf))|(refine callA cx (O) ?_;(conv=>whnf))|(refine callB cx (C) ?_;(conv=>whnf)))|(refine newN (fun r hr=>?_);simp only [keys,List.nil_append,List.cons_append,List.map_cons,List.map_nil,List.mem_cons,List.not_mem_nil,not_or,or_false,not_false_eq_true] at hr)|((with_reducible refine BodyR.id ?_);first|refine BodyR.pan ?_)|((with_reducible refine Upd.id ?_);first|(refine Upd.lit rfl ?_;(conv=>whnf)))
    refine Fin.mk ?_
    refine ⟨WeakerE.refl _,Subp.tk⟩
   |ok x=>
    obtain ⟨e,j⟩:=x
    cases h
    have C:ToOwn cx.P _ [.ptr r 0] [(r,rd l (i+1:Nat) (d+1) 0)] 5 ((e.flat 0).map encN) [(r,rd l j (d+1) 0)]:=C
    have F:=pE_facts wf.toWfT n .unary (d+1) (i+1) e j hi1 hb
    have wl:=wf.len
    simp only [Lv.base] at F
    have K:=close_non r l j (d+1) 0 (by omega) (by omega)
    rw [show d+1 - 1=d by omega] at K
    have V:=fun rt=>over_spec rt 3 ((e.flat 0).map encN) (by rw [List.length_map];omega) (by rw [List.length_map];exact flat_pos e 0)
    have eu:((Ex.un 3 e).flat 0).map encN=(e.flat 0).map encN ++ [encN' 3 0 noS ((((e.flat 0).map encN).length:Int) - 1) (-1)]:=by simp [Ex.flat,encN]
    have el:(((Ex.un 3 e).flat 0).map encN).length=((e.flat 0).map encN).length+1:=by rw [eu];simp
    clear I2 IH hb
    unfold rd at *
    refine (sem_calls' cx (fn:=Tryz.f72) rfl rfl rfl rfl ?_)
    repeat' first|refine Ops.tag rfl ?_|(refine OpsT.go ?_;(conv=>arg 7;whnf))|refine Stp.pure rfl ?_|((with_reducible refine PutK.isSet ?_);refine PutK.st ?_)|refine PutK.mk' rfl ?_|refine Ops.nil ?_|((with_reducible refine Look.id ?_);refine Look.at ?_;try (conv=>arg 7;whnf))|((with_reducible refine Side.id ?_);first|refine Side.auto ?_)|((with_reducible refine Br.id ?_);first|(with_reducible first|refine br_true rfl ?_))|((with_reducible refine SemWp.id ?_);first|refine sem_seq ?_|refine sem_region rfl ?_|refine sem_cond rfl ?_|refine sem_block ?_|refine sem_ret ?_)|((with_reducible refine qThen.id ?_);first|refine qThen.go ?_|refine qThen.ret ?_)|((with_reducible refine hinBlock.id ?_);first|refine hinBlock.ret ?_)|refine Stp.look ?_|refine Stp.call ?_|refine Stp.eff ?_|((with_reducible refine CallWp.id ?_);first|(refine callA cx (N) ?_;(conv=>whnf))|(refine callA cx (I1) ?_;(conv=>whnf))|(refine callA cx (O) ?_;(conv=>whnf))|(refine callTO cx (C) (by repeat first|exact HTake.nil|(apply HTake.cons;focus (repeat first|exact HPick.hit))) (fun rt hrt=>?_);simp only [keys,List.nil_append,List.cons_append,List.map_cons,List.map_nil,List.mem_cons,List.not_mem_nil,not_or,or_false,not_false_eq_true] at hrt;(conv=>whnf))|(refine callA cx (K) ?_;(conv=>whnf))|(refine callA cx (V _) ?_;(conv=>whnf)))|(refine newN (fun r hr=>?_);simp only [keys,List.nil_append,List.cons_append,List.map_cons,List.map_nil,List.mem_cons,List.not_mem_nil,not_or,or_false,not_false_eq_true] at hr)|((with_reducible refine BodyR.id ?_);first|refine BodyR.ret ?_)|((with_reducible refine ResG.id ?_);first|refine ResG.tmp rfl ?_|refine ResG.nil ?_)|((with_reducible refine Upd.id ?_);first|(refine Upd.lit rfl ?_;(conv=>whnf)))
    refine Fin.mk ?_
    show (∃ rt,_∧_)∨_
    rw [el,eu]
    refine .inl ⟨_,rfl,Subp.tk⟩
 |false=>
  rw [b1] at h I1
  rw [if_neg (by simp)] at h
  cases b2:isT l i (tc 40) with
  |true=>
   rw [b2] at I2
   rw [b2] at h
   rw [if_pos rfl] at h
   by_cases hd:50≤d
   ·rw [if_pos hd] at h
    cases h
    have O:=open_deep r l i d 0 (tc 40) hi b2 hd
    clear IH
    unfold rd at *
    refine (sem_calls' cx (fn:=Tryz.f72) rfl rfl rfl rfl ?_)
    repeat' first|refine Ops.tag rfl ?_|(refine OpsT.go ?_;(conv=>arg 7;whnf))|refine Stp.pure rfl ?_|((with_reducible refine PutK.isSet ?_);refine PutK.st ?_)|refine PutK.mk' rfl ?_|refine Ops.nil ?_|((with_reducible refine Look.id ?_);refine Look.at ?_;try (conv=>arg 7;whnf))|((with_reducible refine Side.id ?_);first|refine Side.auto ?_)|((with_reducible refine Br.id ?_);first|(with_reducible first|refine br_true rfl ?_|refine br_false rfl ?_))|((with_reducible refine SemWp.id ?_);first|refine sem_seq ?_|refine sem_region rfl ?_|refine sem_cond rfl ?_|refine sem_block ?_)|((with_reducible refine qThen.id ?_);first|refine qThen.go ?_)|refine Stp.look ?_|refine Stp.call ?_|refine Stp.eff ?_|((with_reducible refine CallWp.id ?_);first|(refine callA cx (N) ?_;(conv=>whnf))|(refine callA cx (I1) ?_;(conv=>whnf))|(refine callA cx (I2) ?_;(conv=>whnf))|(refine callB cx (O) ?_;(conv=>whnf)))|(refine newN (fun r hr=>?_);simp only [keys,List.nil_append,List.cons_append,List.map_cons,List.map_nil,List.mem_cons,List.not_mem_nil,not_or,or_false,not_false_eq_true] at hr)|((with_reducible refine BodyR.id ?_);first|refine BodyR.pan ?_)|((with_reducible refine Upd.id ?_);first|(refine Upd.lit rfl ?_;(conv=>whnf)))
    refine Fin.mk ?_
    refine ⟨WeakerE.refl _,Subp.tk⟩
   ·rw [if_neg hd] at h
    have O:=open_yes r l i d 0 (tc 40) wf.toWfT hi b2 hd h0
    have hi1:=wf.more i hi (isT_kind b2)
    cases hb:pE l n .expr (d+1) (i+1) with
    |none=>rw [hb] at h;cases h
    |some r1=>
    have C:=IH.expr n (Nat.le_refl _) r (d+1) (i+1) r1 hi1 (by omega) (by omega) hb
    rw [hb] at h
    cases r1 with
    |error x=>
     obtain ⟨c,j,d'⟩:=x
     cases h
     have C:To _ [.ptr r 0] [(r,rd l (i+1:Nat) (d+1) 0)] (.pan failV) [(r,rd l j d' c)]:=C
     clear IH hb
     unfold rd at *
     refine (sem_calls' cx (fn:=Tryz.f72) rfl rfl rfl rfl ?_)
     repeat' first|refine Ops.tag rfl ?_|(refine OpsT.go ?_;(conv=>arg 7;whnf))|refine Stp.pure rfl ?_|((with_reducible refine PutK.isSet ?_);refine PutK.st ?_)|refine PutK.mk' rfl ?_|refine Ops.nil ?_|((with_reducible refine Look.id ?_);refine Look.at ?_;try (conv=>arg 7;whnf))|((with_reducible refine Side.id ?_);first|refine Side.auto ?_)|((with_reducible refine Br.id ?_);first|(with_reducible first|refine br_true rfl ?_|refine br_false rfl ?_))|((with_reducible refine SemWp.id ?_);first|refine sem_seq ?_|refine sem_region rfl ?_|refine sem_cond rfl ?_|refine sem_block ?_)|((with_reducible refine qThen.id ?_);first|refine qThen.go ?_)|refine Stp.look ?_|refine Stp.call ?_|refine Stp.eff ?_|((with_reducible refine CallWp.id ?_);first|(refine callA cx (N) ?_;(conv=>whnf))|(refine callA cx (I1) ?_;(conv=>whnf))|(refine callA cx (I2) ?_;(conv=>whnf))|(refine callA cx (O) ?_;(conv=>whnf))|(refine callB cx (C) ?_;(conv=>whnf)))|(refine newN (fun r hr=>?_);simp only [keys,List.nil_append,List.cons_append,List.map_cons,List.map_nil,List.mem_cons,List.not_mem_nil,not_or,or_false,not_false_eq_true] at hr)|((with_reducible refine BodyR.id ?_);first|refine BodyR.pan ?_)|((with_reducible refine Upd.id ?_);first|(refine Upd.lit rfl ?_;(conv=>whnf)))
     refine Fin.mk ?_
     refine ⟨WeakerE.refl _,Subp.tk⟩
    |ok x=>
     obtain ⟨e,j⟩:=x
     have C:ToOwn cx.P _ [.ptr r 0] [(r,rd l (i+1:Nat) (d+1) 0)] 5 ((e.flat 0).map encN) [(r,rd l j (d+1) 0)]:=C
     have F:=pE_facts wf.toWfT n .expr (d+1) (i+1) e j hi1 hb
     have h:(if isT l j (tc 41)=true then okR e (j+1) else errR 4 j (d+1))=some res:=h
     cases b9:isT l j (tc 41) with
     |false=>
      rw [b9] at h
      cases h
      have K:=close_no r l j (d+1) 0 (tc 41) ne1 F.1 b9
      clear IH hb
      unfold rd at *
      refine (sem_calls' cx (fn:=Tryz.f72) rfl rfl rfl rfl ?_)
      repeat' first|refine Ops.tag rfl ?_|(refine OpsT.go ?_;(conv=>arg 7;whnf))|refine Stp.pure rfl ?_|((with_reducible refine PutK.isSet ?_);refine PutK.st ?_)|refine PutK.mk' rfl ?_|refine Ops.nil ?_|((with_reducible refine Look.id ?_);refine Look.at ?_;try (conv=>arg 7;whnf))|((with_reducible refine Side.id ?_);first|refine Side.auto ?_)|((with_reducible refine Br.id ?_);first|(with_reducible first|refine br_true rfl ?_|refine br_false rfl ?_))|((with_reducible refine SemWp.id ?_);first|refine sem_seq ?_|refine sem_region rfl ?_|refine sem_cond rfl ?_|refine sem_block ?_)|((with_reducible refine qThen.id ?_);first|refine qThen.go ?_)|refine Stp.look ?_|refine Stp.call ?_|refine Stp.eff ?_|((with_reducible refine CallWp.id ?_);first|(refine callA cx (N) ?_;(conv=>whnf))|(refine callA cx (I1) ?_;(conv=>whnf))|(refine callA cx (I2) ?_;(conv=>whnf))|(refine callA cx (O) ?_;(conv=>whnf))|(refine callTO cx (C) (by repeat first|exact HTake.nil|(apply HTake.cons;focus (repeat first|exact HPick.hit))) (fun rt hrt=>?_);simp only [keys,List.nil_append,List.cons_append,List.map_cons,List.map_nil,List.mem_cons,List.not_mem_nil,not_or,or_false,not_false_eq_true] at hrt;(conv=>whnf))|(refine callB cx (K) ?_;(conv=>whnf)))|(refine newN (fun r hr=>?_);simp only [keys,List.nil_append,List.cons_append,List.map_cons,List.map_nil,List.mem_cons,List.not_mem_nil,not_or,or_false,not_false_eq_true] at hr)|((with_reducible refine BodyR.id ?_);first|refine BodyR.pan ?_)|((with_reducible refine Upd.id ?_);first|(refine Upd.lit rfl ?_;(conv=>whnf)))
      refine Fin.mk ?_
      refine ⟨WeakerE.refl _,Subp.tk⟩
     |true=>
      rw [b9] at h
      cases h
      have K:=close_yes r l j (d+1) 0 (tc 41) wf.toWfT ne1 F.1 b9 (by omega) (by omega)
      rw [show d+1 - 1=d by omega] at K
      clear IH hb
      unfold rd at *
      refine (sem_calls' cx (fn:=Tryz.f72) rfl rfl rfl rfl ?_)
      repeat' first|refine Ops.tag rfl ?_|(refine OpsT.go ?_;(conv=>arg 7;whnf))|refine Stp.pure rfl ?_|((with_reducible refine PutK.isSet ?_);refine PutK.st ?_)|refine PutK.mk' rfl ?_|refine Ops.nil ?_|((with_reducible refine Look.id ?_);refine Look.at ?_;try (conv=>arg 7;whnf))|((with_reducible refine Side.id ?_);first|refine Side.auto ?_)|((with_reducible refine Br.id ?_);first|(with_reducible first|refine br_true rfl ?_|refine br_false rfl ?_))|((with_reducible refine SemWp.id ?_);first|refine sem_seq ?_|refine sem_region rfl ?_|refine sem_cond rfl ?_|refine sem_block ?_|refine sem_ret ?_)|((with_reducible refine qThen.id ?_);first|refine qThen.go ?_|refine qThen.ret ?_)|((with_reducible refine hinBlock.id ?_);first|refine hinBlock.ret ?_)|refine Stp.look ?_|refine Stp.call ?_|refine Stp.eff ?_|((with_reducible refine CallWp.id ?_);first|(refine callA cx (N) ?_;(conv=>whnf))|(refine callA cx (I1) ?_;(conv=>whnf))|(refine callA cx (I2) ?_;(conv=>whnf))|(refine callA cx (O) ?_;(conv=>whnf))|(refine callTO cx (C) (by repeat first|exact HTake.nil|(apply HTake.cons;focus (repeat first|exact HPick.hit))) (fun rt hrt=>?_);simp only [keys,List.nil_append,List.cons_append,List.map_cons,List.map_nil,List.mem_cons,List.not_mem_nil,not_or,or_false,not_false_eq_true] at hrt;(conv=>whnf))|(refine callA cx (K) ?_;(conv=>whnf)))|(refine newN (fun r hr=>?_);simp only [keys,List.nil_append,List.cons_append,List.map_cons,List.map_nil,List.mem_cons,List.not_mem_nil,not_or,or_false,not_false_eq_true] at hr)|((with_reducible refine BodyR.id ?_);first|refine BodyR.ret ?_)|((with_reducible refine ResG.id ?_);first|refine ResG.tmp rfl ?_|refine ResG.nil ?_)|((with_reducible refine Upd.id ?_);first|(refine Upd.lit rfl ?_;(conv=>whnf)))
      refine Fin.mk (.inl ⟨_,rfl,Subp.take (t:=?_) ?_⟩)
      rotate_left
      (repeat first|exact HTake.nil|(apply HTake.cons;focus (repeat first|exact HPick.hit|apply HPick.miss)))
  |false=>
   rw [b2] at h I2
   rw [if_neg (by simp)] at h
   by_cases k2:(tk l i).kind=2
   ·rw [if_pos k2] at h
    cases h
    have A:=atoi_spec (tk l i).text (wf.num i hi k2)
    have X:=next_spec r l i d 0 (wf.more i hi (by omega)) wf.len
    have L:=leaf_spec 1 (numS (tk l i).text) noS 0 0
    rw [k2] at N X
    clear IH
    unfold rd at *
    refine (sem_calls' cx (fn:=Tryz.f72) rfl rfl rfl rfl ?_)
    repeat' first|refine Ops.tag rfl ?_|(refine OpsT.go ?_;(conv=>arg 7;whnf))|((with_reducible refine Stp.isEq ?_);first|refine Stp.eqT ?_)|refine Stp.pure rfl ?_|((with_reducible refine PutK.isSet ?_);refine PutK.st ?_)|refine PutK.mk' rfl ?_|refine Ops.nil ?_|((with_reducible refine Look.id ?_);refine Look.auto ?_ (by repeat first|exact HGet.hit|apply HGet.miss (by first|(apply Ne.symm;assumption)));try (conv=>arg 7;whnf))|((with_reducible refine Side.id ?_);first|refine Side.auto ?_)|((with_reducible refine Br.id ?_);first|(with_reducible first|refine br_true rfl ?_|refine br_false rfl ?_))|((with_reducible refine SemWp.id ?_);first|refine sem_seq ?_|refine sem_region rfl ?_|refine sem_cond rfl ?_|refine sem_block ?_|refine sem_ret ?_)|((with_reducible refine qThen.id ?_);first|refine qThen.go ?_|refine qThen.ret ?_)|((with_reducible refine hinBlock.id ?_);first|refine hinBlock.ret ?_)|refine Stp.valS ?_|refine Stp.look ?_|refine Stp.call ?_|refine Stp.eff ?_|((with_reducible refine CallWp.id ?_);first|(refine callA cx (N) ?_;(conv=>whnf))|(refine callA cx (I1) ?_;(conv=>whnf))|(refine callA cx (I2) ?_;(conv=>whnf))|(refine callA cx (X) ?_;(conv=>whnf))|refine Pur.call (A) ?_|(refine callT cx (L) (by repeat first|exact HTake.nil) ?_;(conv=>whnf)))|(refine newN (fun r hr=>?_);simp only [keys,List.nil_append,List.cons_append,List.map_cons,List.map_nil,List.mem_cons,List.not_mem_nil,not_or,or_false,not_false_eq_true] at hr)|((with_reducible refine BodyR.id ?_);first|refine BodyR.ret ?_)|((with_reducible refine ResG.id ?_);first|refine ResG.tmp rfl ?_|refine ResG.nil ?_)|((with_reducible refine Upd.id ?_);first|(refine Upd.lit rfl ?_;(conv=>whnf)))
    refine Fin.mk (.inr ⟨rfl,Subp.take (t:=?_) ?_⟩)
    rotate_left
    (repeat first|exact HTake.nil|(apply HTake.cons;focus (repeat first|exact HPick.hit|apply HPick.miss)))
   rw [if_neg k2] at h
   by_cases k1:(tk l i).kind=1
   ·rw [if_pos k1] at h
    cases h
    have X:=name_yes r l i d 0 wf.toWfT hi k1
    have L:=leaf_spec 2 0 (tk l i).text 0 0
    rw [k1] at N
    clear IH
    unfold rd at *
    refine (sem_calls' cx (fn:=Tryz.f72) rfl rfl rfl rfl ?_)
    repeat' first|refine Ops.tag rfl ?_|(refine OpsT.go ?_;(conv=>arg 7;whnf))|((with_reducible refine Stp.isEq ?_);first|refine Stp.eqF ?_)|refine Stp.pure rfl ?_|((with_reducible refine PutK.isSet ?_);refine PutK.st ?_)|refine PutK.mk' rfl ?_|refine Ops.nil ?_|((with_reducible refine Look.id ?_);refine Look.auto ?_ (by repeat first|exact HGet.hit|apply HGet.miss (by first|(apply Ne.symm;assumption)));try (conv=>arg 7;whnf))|((with_reducible refine Side.id ?_);first|refine Side.auto ?_)|((with_reducible refine Br.id ?_);first|(with_reducible first|refine br_false rfl ?_))|((with_reducible refine SemWp.id ?_);first|refine sem_seq ?_|refine sem_region rfl ?_|refine sem_cond rfl ?_|refine sem_block ?_|refine sem_ret ?_|refine sem_skip ?_)|((with_reducible refine qThen.id ?_);first|refine qThen.go ?_)|((with_reducible refine hinBlock.id ?_);first|refine hinBlock.go ?_)|refine Stp.valS ?_|refine Stp.look ?_|refine Stp.call ?_|refine Stp.eff ?_|((with_reducible refine CallWp.id ?_);first|(refine callA cx (N) ?_;(conv=>whnf))|(refine callA cx (I1) ?_;(conv=>whnf))|(refine callA cx (I2) ?_;(conv=>whnf))|(refine callA cx (X) ?_;(conv=>whnf))|(refine callT cx (L) (by repeat first|exact HTake.nil) ?_;(conv=>whnf)))|(refine newN (fun r hr=>?_);simp only [keys,List.nil_append,List.cons_append,List.map_cons,List.map_nil,List.mem_cons,List.not_mem_nil,not_or,or_false,not_false_eq_true] at hr)|((with_reducible refine BodyR.id ?_);first|refine BodyR.ret ?_)|((with_reducible refine ResG.id ?_);first|refine ResG.tmp rfl ?_|refine ResG.nil ?_)|((with_reducible refine Upd.id ?_);first|(refine Upd.lit rfl ?_;(conv=>whnf)))
    refine Fin.mk (.inr ⟨rfl,Subp.take (t:=?_) ?_⟩)
    rotate_left
    (repeat first|exact HTake.nil|(apply HTake.cons;focus (repeat first|exact HPick.hit|apply HPick.miss)))
   ·rw [if_neg k1] at h
    cases h
    have X:=name_no r l i d 0 hi k1
    generalize (tk l i).kind=k at *
    clear IH
    unfold rd at *
    refine (sem_calls' cx (fn:=Tryz.f72) rfl rfl rfl rfl ?_)
    repeat' first|refine Ops.tag rfl ?_|(refine OpsT.go ?_;(conv=>arg 7;whnf))|((with_reducible refine Stp.isEq ?_);first|refine Stp.eqF ?_)|refine Stp.pure rfl ?_|((with_reducible refine PutK.isSet ?_);refine PutK.st ?_)|refine PutK.mk' rfl ?_|refine Ops.nil ?_|((with_reducible refine Look.id ?_);refine Look.auto ?_ (by repeat first|exact HGet.hit|apply HGet.miss (by first|(apply Ne.symm;assumption)));try (conv=>arg 7;whnf))|((with_reducible refine Side.id ?_);first|refine Side.auto ?_)|((with_reducible refine Br.id ?_);first|(with_reducible first|refine br_false rfl ?_))|((with_reducible refine SemWp.id ?_);first|refine sem_seq ?_|refine sem_region rfl ?_|refine sem_cond rfl ?_|refine sem_block ?_|refine sem_skip ?_)|((with_reducible refine qThen.id ?_);first|refine qThen.go ?_)|((with_reducible refine hinBlock.id ?_);first|refine hinBlock.go ?_)|refine Stp.valS ?_|refine Stp.look ?_|refine Stp.call ?_|refine Stp.eff ?_|((with_reducible refine CallWp.id ?_);first|(refine callA cx (N) ?_;(conv=>whnf))|(refine callA cx (I1) ?_;(conv=>whnf))|(refine callA cx (I2) ?_;(conv=>whnf))|(refine callB cx (X) ?_;(conv=>whnf)))|(refine newN (fun r hr=>?_);simp only [keys,List.nil_append,List.cons_append,List.map_cons,List.map_nil,List.mem_cons,List.not_mem_nil,not_or,or_false,not_false_eq_true] at hr)|((with_reducible refine BodyR.id ?_);first|refine BodyR.pan ?_)|((with_reducible refine Upd.id ?_);first|(refine Upd.lit rfl ?_;(conv=>whnf)))
    refine Fin.mk ?_
    refine ⟨WeakerE.refl _,Subp.tk⟩
end Go.Proofs.Hk

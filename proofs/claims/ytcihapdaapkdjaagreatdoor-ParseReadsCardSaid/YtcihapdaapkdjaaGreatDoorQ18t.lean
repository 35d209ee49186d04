import Derived.Test.YtcihapdaapkdjaaGreatDoorQ18d
import Derived.Test.YtcihapdaapkdjaaGreatDoorH41
set_option linter.unusedSimpArgs false
set_option linter.unusedVariables false
set_option maxRecDepth 4000
namespace Go.Proofs.Hk
open Go Go.Proofs
set_option maxHeartbeats 8000000 in
theorem pr_t0 (l:List Tk) (q i:Nat) (wn:WfN l) (f:Nat) (nm:ByteArray) (ps:List ByteArray) (j4:Nat) (M1:To 25 [.ptr q 0,ss kProc] [(q,rd l i 0 0)] (.ret (.tup [])) [(q,rd l (i+1:Nat) 0 0)])(NM:To 26 [.ptr q 0] [(q,rd l (i+1:Nat) 0 0)] (.ret (ss nm)) [(q,rd l (i+1+1:Nat) 0 0)])(C:∀ (pp rb rt:Nat),pp≠rb→q≠rb→q≠pp→rt≠rb→rt≠pp→rt≠q→To 27 [.ptr q 0,pFn pp rb] ((q,rd l (i+2:Nat) 0 0)::pT pp rb rt q nm [] ⟨#[]⟩ (.v (.slice none 0 0)) (.v (.slice none 0 0))) (.ret (.tup [])) ((q,rd l j4 0 0)::pT pp rb rt q nm ps ⟨#[]⟩ (.v (.slice none 0 0)) (.v (.slice none 0 0))))(IN:To 29 [.ptr q 0,ss ⟨#[45,62]⟩] [(q,rd l j4 0 0)] (.ret (bb false)) [(q,rd l j4 0 0)])(MB:To 25 [.ptr q 0,ss (tc 123)] [(q,rd l (j4:Nat) 0 0)] (.ret (.tup [])) [(q,rd l (j4+1:Nat) 0 0)]) (hi6:j4+1 < l.length) (res) (h:(bindR (pVars l f [] 0 (j4+1)) fun vs i7=>bindR (pS l f (.stmts []) 0 i7) fun b i8=>bindR (pMust l (tc 125) 0 i8) fun _ i9=>okR (⟨nm,ps,⟨#[]⟩,vs,b⟩:PD) i9)=some res):goalP 12 [.ptr q 0] [(q,rd l i 0 0)] l q res:=by
 have wf:=wn.toWfT
 have wl:=wf.len
 have AS:=allS l wn f
 unfold pT pFn pC ownS at *
 dsimp only [List.map_nil,List.length_nil] at C
 refine goalP.of ?_
 unfold rd at *
 refine sem_calls' cx (fn:=Tryz.f12) rfl rfl rfl rfl ?_
 repeat' first|(refine sem_cellOwn cx _ 1 [ss nm] [ss ⟨#[]⟩,.v (.slice none 0 0),.v (.slice none 0 0)] (by repeat first|exact HPick.hit|apply HPick.miss) ?_;intro rt hrt;simp only [keys,List.map_cons,List.map_nil,List.mem_cons,List.not_mem_nil,not_or,or_false,not_false_eq_true] at hrt;(repeat (obtain ⟨_,hrt⟩:=hrt));simp only [List.cons_append,List.nil_append])|refine Ops.tag rfl ?_|(refine OpsT.go ?_;(conv=>arg 7;whnf))|refine Stp.pure rfl ?_|((with_reducible refine PutK.isSet ?_);refine PutK.st ?_)|refine PutK.mk' rfl ?_|refine Ops.nil ?_|((with_reducible refine Look.id ?_);refine Look.at ?_;try (conv=>arg 7;whnf))|((with_reducible refine Side.id ?_);first|refine Side.auto ?_)|((with_reducible refine Br.id ?_);first|(with_reducible first|refine br_false rfl ?_))|((with_reducible refine SemWp.id ?_);first|refine sem_seq ?_|refine sem_region rfl ?_|refine sem_cond rfl ?_|refine sem_block ?_|refine sem_skip ?_)|((with_reducible refine qThen.id ?_);first|refine qThen.go ?_)|refine Stp.valS ?_|refine Stp.look ?_|refine Stp.call ?_|refine Stp.eff ?_|((with_reducible refine CallWp.id ?_);first|(refine callA cx (M1) ?_;(conv=>whnf))|(refine callA cx (NM) ?_;(conv=>whnf))|(refine callA cx (C _ _ rt (by first|assumption) (by first|(apply Ne.symm;assumption)) (by first|(apply Ne.symm;assumption)) (by first|assumption) (by first|assumption) (by first|assumption)) ?_;(conv=>whnf))|(refine callA cx (IN) ?_;(conv=>whnf))|(refine callA cx (MB) ?_;(conv=>whnf)))|(refine newN (fun r hr=>?_);simp only [keys,List.nil_append,List.cons_append,List.map_cons,List.map_nil,List.mem_cons,List.not_mem_nil,not_or,or_false,not_false_eq_true] at hr;(repeat (obtain ⟨_,hr⟩:=hr)))|((with_reducible refine Upd.id ?_);first|(refine Upd.lit rfl ?_;(conv=>whnf)))
 clear C M1 MB NM IN
 rename_i rb hrb r2 na1 na2 na3 na4 na5 na6 na7
 refine sem_cellOwn cx _ 1 [ss nm,.list (.own rt 0) 1 (ps.map ss),ss ⟨#[]⟩] [.v (.slice none 0 0)] (by repeat first|exact HPick.hit|apply HPick.miss) ?_
 intro rv hrv
 simp only [keys,List.map_cons,List.map_nil,List.mem_cons,List.not_mem_nil,not_or,or_false,not_false_eq_true] at hrv
 (repeat (obtain ⟨_,hrv⟩:=hrv))
 simp only [List.cons_append,List.nil_append]
 have ne_q_rb:q≠rb:=(by first|assumption|(apply Ne.symm;assumption)|omega);have ne_q_r2:q≠r2:=(by first|assumption|(apply Ne.symm;assumption)|omega);have ne_q_r:q≠r:=(by first|assumption|(apply Ne.symm;assumption)|omega);have ne_q_rt:q≠rt:=(by first|assumption|(apply Ne.symm;assumption)|omega);have ne_q_rv:q≠rv:=(by first|assumption|(apply Ne.symm;assumption)|omega);have ne_rb_q:rb≠q:=(by first|assumption|(apply Ne.symm;assumption)|omega);have ne_rb_r2:rb≠r2:=(by first|assumption|(apply Ne.symm;assumption)|omega);have ne_rb_r:rb≠r:=(by first|assumption|(apply Ne.symm;assumption)|omega);have ne_rb_rt:rb≠rt:=(by first|assumption|(apply Ne.symm;assumption)|omega);have ne_rb_rv:rb≠rv:=(by first|assumption|(apply Ne.symm;assumption)|omega);have ne_r2_q:r2≠q:=(by first|assumption|(apply Ne.symm;assumption)|omega);have ne_r2_rb:r2≠rb:=(by first|assumption|(apply Ne.symm;assumption)|omega);have ne_r2_r:r2≠r:=(by first|assumption|(apply Ne.symm;assumption)|omega);have ne_r2_rt:r2≠rt:=(by first|assumption|(apply Ne.symm;assumption)|omega);have ne_r2_rv:r2≠rv:=(by first|assumption|(apply Ne.symm;assumption)|omega);have ne_r_q:r≠q:=(by first|assumption|(apply Ne.symm;assumption)|omega);have ne_r_rb:r≠rb:=(by first|assumption|(apply Ne.symm;assumption)|omega);have ne_r_r2:r≠r2:=(by first|assumption|(apply Ne.symm;assumption)|omega);have ne_r_rt:r≠rt:=(by first|assumption|(apply Ne.symm;assumption)|omega);have ne_r_rv:r≠rv:=(by first|assumption|(apply Ne.symm;assumption)|omega);have ne_rt_q:rt≠q:=(by first|assumption|(apply Ne.symm;assumption)|omega);have ne_rt_rb:rt≠rb:=(by first|assumption|(apply Ne.symm;assumption)|omega);have ne_rt_r2:rt≠r2:=(by first|assumption|(apply Ne.symm;assumption)|omega);have ne_rt_r:rt≠r:=(by first|assumption|(apply Ne.symm;assumption)|omega);have ne_rt_rv:rt≠rv:=(by first|assumption|(apply Ne.symm;assumption)|omega);have ne_rv_q:rv≠q:=(by first|assumption|(apply Ne.symm;assumption)|omega);have ne_rv_rb:rv≠rb:=(by first|assumption|(apply Ne.symm;assumption)|omega);have ne_rv_r2:rv≠r2:=(by first|assumption|(apply Ne.symm;assumption)|omega);have ne_rv_r:rv≠r:=(by first|assumption|(apply Ne.symm;assumption)|omega);have ne_rv_rt:rv≠rt:=(by first|assumption|(apply Ne.symm;assumption)|omega)
 refine sem_loop4 cx (fun g acc j (_:Unit)=>j < l.length∧acc.length≤j∧(bindR (pVars l g acc 0 j) fun vs i7=>bindR (pS l f (.stmts []) 0 i7) fun b i8=>bindR (pMust l (tc 125) 0 i8) fun _ i9=>okR (⟨nm,ps,⟨#[]⟩,vs,b⟩:PD) i9)=some res) (fun g acc j _=>[(1,.sure,.ptr rb 0),(2,.sure,.ptr r2 0),(3,.sure,.ptr r 0)]) (fun g acc j _=>[(q,.cells [LTk l,ii j,ii 0,ii 0] 47),(r,.cells [ss nm,.list (.own rt 0) 1 (ps.map ss),ss ⟨#[]⟩,.list (.own rv 0) 1 (acc.map ss),.v (.slice none 0 0)] 37),(rv,.tok acc.length),(rb,.cells [.ptr q 0] 45),(r2,.cells [.v (.string ⟨#[]⟩),.v (.slice none 0 0),.v (.string ⟨#[]⟩),.v (.slice none 0 0),.v (.slice none 0 0)] 37),(rt,.tok ps.length)]) (fun g=>g) f [] (j4+1) () ⟨hi6,Nat.zero_le _,h⟩ (Sub.cons rfl rfl (Sub.cons rfl rfl (Sub.cons rfl rfl (Sub.nil _)))) Subp.tk ?_
 clear h
 rintro g acc j _ ⟨hj,hla,hp⟩
 have ml:(acc.map ss).length=acc.length:=by simp
 cases g with
 |zero=>cases hp
 |succ g=>
 unfold pVars at hp
 cases b7:isT l j kVar with
 |false=>
  rw [if_neg (by rw [b7];exact Bool.false_ne_true)] at hp
  have hp:(bindR (pS l f (.stmts []) 0 j) fun b i8=>bindR (pMust l (tc 125) 0 i8) fun _ i9=>okR (⟨nm,ps,⟨#[]⟩,acc,b⟩:PD) i9)=some res:=hp
  have V:=may_no q l j 0 0 kVar hj b7
  cases hb:pS l f (.stmts []) 0 j with
  |none=>rw [hb] at hp;cases hp
  |some r1=>
  rw [hb] at hp
  have C:=AS.stmts f (Nat.le_refl _) q 0 j r1 hj (by omega) (by omega) hb
  cases r1 with
  |error x=>
   obtain ⟨c,m,d'⟩:=x
   cases hp
   have C:To 30 [.ptr q 0] [(q,rd l j 0 0)] (.pan failV) [(q,rd l m d' c)]:=C
   clear AS hb
   unfold rd at *
   repeat' first|refine Ops.tag rfl ?_|(refine OpsT.go ?_;(conv=>arg 7;whnf))|refine Stp.pure rfl ?_|refine PutK.mk' rfl ?_|refine Ops.nil ?_|((with_reducible refine Look.id ?_);refine Look.at ?_;try (conv=>arg 7;whnf))|((with_reducible refine Side.id ?_);first|refine Side.auto ?_)|((with_reducible refine Br.id ?_);first|(with_reducible first|refine br_false rfl ?_))|((with_reducible refine SemWp.id ?_);first|refine sem_seq ?_|refine sem_region rfl ?_|refine sem_cond rfl ?_|refine sem_exit ?_)|((with_reducible refine qThen.id ?_);first|refine qThen.go ?_)|refine Stp.valS ?_|refine Stp.look ?_|refine Stp.call ?_|((with_reducible refine CallWp.id ?_);first|(refine callA cx (V) ?_;(conv=>whnf))|(refine callB cx (C) ?_;(conv=>whnf)))|((with_reducible refine BodyR.id ?_);first|refine BodyR.pan ?_)
   refine Fin.mk ?_
   refine ⟨WeakerE.refl _,Subp.tk⟩
  |ok x=>
   obtain ⟨b,m⟩:=x
   have C:To 30 [.ptr q 0] [(q,rd l j 0 0)] (.ret (LSDs b)) [(q,rd l m 0 0)]:=C
   have hm:=(pS_facts wf f _ 0 j b m hj hb).1
   have hp:(bindR (if isT l m (tc 125)=true then okR () (m+1) else errR 4 m 0) fun _ i9=>okR (⟨nm,ps,⟨#[]⟩,acc,b⟩:PD) i9)=some res:=hp
   cases b8:isT l m (tc 125) with
   |false=>
    rw [b8] at hp
    cases hp
    have M:=must_no q l m 0 0 (tc 125) hm b8
    clear AS hb
    unfold rd at *
    repeat' first|refine Ops.tag rfl ?_|(refine OpsT.go ?_;(conv=>arg 7;whnf))|refine Stp.pure rfl ?_|((with_reducible refine PutK.isSet ?_);refine PutK.st ?_)|refine PutK.mk' rfl ?_|refine Ops.nil ?_|((with_reducible refine Look.id ?_);refine Look.at ?_;try (conv=>arg 7;whnf))|((with_reducible refine Side.id ?_);first|refine Side.auto ?_)|((with_reducible refine Br.id ?_);first|(with_reducible first|refine br_false rfl ?_))|((with_reducible refine SemWp.id ?_);first|refine sem_seq ?_|refine sem_region rfl ?_|refine sem_cond rfl ?_|refine sem_exit ?_)|((with_reducible refine qThen.id ?_);first|refine qThen.go ?_)|refine Stp.valS ?_|refine Stp.look ?_|refine Stp.call ?_|refine Stp.eff ?_|((with_reducible refine CallWp.id ?_);first|(refine callA cx (V) ?_;(conv=>whnf))|(refine callA cx (C) ?_;(conv=>whnf))|(refine callB cx (M) ?_;(conv=>whnf)))|((with_reducible refine BodyR.id ?_);first|refine BodyR.pan ?_)|((with_reducible refine Upd.id ?_);first|(refine Upd.lit rfl ?_;(conv=>whnf)))
    refine Fin.mk ?_
    refine ⟨WeakerE.refl _,Subp.tk⟩
   |true=>
    rw [b8] at hp
    cases hp
    have M:=must_yes q l m 0 0 (tc 125) wf hm b8
    clear AS hb
    unfold rd at *
    repeat' first|refine Ops.tag rfl ?_|(refine OpsT.go ?_;(conv=>arg 7;whnf))|refine Stp.pure rfl ?_|((with_reducible refine PutK.isSet ?_);refine PutK.st ?_)|refine PutK.mk' rfl ?_|refine Ops.nil ?_|((with_reducible refine Look.id ?_);refine Look.at ?_;try (conv=>arg 7;whnf))|((with_reducible refine Side.id ?_);first|refine Side.auto ?_)|((with_reducible refine Br.id ?_);first|(with_reducible first|refine br_false rfl ?_))|((with_reducible refine SemWp.id ?_);first|refine sem_seq ?_|refine sem_region rfl ?_|refine sem_cond rfl ?_|refine sem_exit ?_|refine sem_ret ?_)|((with_reducible refine qThen.id ?_);first|refine qThen.go ?_)|refine Stp.valS ?_|refine Stp.look ?_|refine Stp.call ?_|refine Stp.eff ?_|((with_reducible refine CallWp.id ?_);first|(refine callA cx (V) ?_;(conv=>whnf))|(refine callA cx (C) ?_;(conv=>whnf))|(refine callA cx (M) ?_;(conv=>whnf)))|((with_reducible refine BodyR.id ?_);first|refine BodyR.ret ?_)|((with_reducible refine ResG.id ?_);first|refine ResG.cell rfl ?_|refine ResG.nil ?_)|((with_reducible refine LoadIs.id ?_);first|refine LoadIs.ag rfl rfl rfl ?_)|((with_reducible refine Upd.id ?_);first|(refine Upd.lit rfl ?_;(conv=>whnf)))
    refine Fin.mk ?_
    refine ⟨(by refine WeakerE.ret (Weaker.agg ?_);(repeat first|exact WeakerC.nil|refine WeakerC.cons ?_ rfl ?_|exact Weaker.refl _|exact Weaker.nil _|exact Weaker.tok _ _ _)),Subp.tk⟩
 |true=>
  rw [if_pos b7] at hp
  have V:=may_yes q l j 0 0 kVar wf hj b7
  have hj1:=wf.more j hj (isT_kind b7)
  unfold pName at hp
  by_cases k1:(tk l (j+1)).kind=1
  rotate_left
  ·rw [if_neg k1] at hp
   cases hp
   have C:=name_no q l (j+1) 0 0 hj1 k1
   clear AS
   unfold rd at *
   repeat' first|((with_reducible refine DrawReg.id ?_);refine drawPanC cx 3 [4,5,6,7] [0,1,2] [2] (C) (by repeat first|exact HTake.nil|(apply HTake.cons;focus (repeat first|exact HPick.hit))) rfl (by decide +kernel) (by decide +kernel) rfl rfl ?_ ?_;rotate_left;(conv=>whnf);rotate_left)|(refine DOpsL.cons rfl rfl ?_;(conv=>arg 7;whnf))|(refine DOpsL.nil ⟨rfl,_,rfl,rfl⟩)|refine Ops.tag rfl ?_|(refine OpsT.go ?_;(conv=>arg 7;whnf))|refine Stp.pure rfl ?_|refine PutK.mk' rfl ?_|refine Ops.nil ?_|refine DStp.pure rfl ?_|((with_reducible refine Look.id ?_);refine Look.at ?_;try (conv=>arg 7;whnf))|((with_reducible refine Side.id ?_);first|refine Side.auto ?_)|((with_reducible refine Br.id ?_);first|(with_reducible first|refine br_true rfl ?_))|((with_reducible refine SemWp.id ?_);first|refine sem_seq ?_|refine sem_region rfl ?_|refine sem_cond rfl ?_|refine sem_block ?_|refine sem_skip ?_|refine sem_draw ?_)|((with_reducible refine qThen.id ?_);first|refine qThen.go ?_)|refine Stp.valS ?_|refine Stp.look ?_|refine Stp.call ?_|refine DStp.valS ?_|refine DStp.look ?_|((with_reducible refine CallWp.id ?_);first|(refine callA cx (V) ?_;(conv=>whnf)))|((with_reducible refine BodyR.id ?_);first|refine BodyR.pan ?_)
   refine Fin.mk ?_
   refine ⟨WeakerE.refl _,Subp.tk⟩
  ·rw [if_pos k1] at hp
   have C:=name_yes q l (j+1) 0 0 wf hj1 k1
   have hj2:=wf.more (j+1) hj1 (by omega)
   generalize (tk l (j+1)).text=t0 at *
   have e1:(acc ++ [t0]).map ss=acc.map ss ++ [ss t0]:=by simp
   have e2:(acc ++ [t0]).length=acc.length+1:=by simp
   have hp:(bindR (bindR (if isT l (j+2) (tc 59)=true then okR () (j+2+1) else errR 4 (j+2) 0) fun _ m=>pVars l g (acc ++ [t0]) 0 m) fun vs i7=>bindR (pS l f (.stmts []) 0 i7) fun b i8=>bindR (pMust l (tc 125) 0 i8) fun _ i9=>okR (⟨nm,ps,⟨#[]⟩,vs,b⟩:PD) i9)=some res:=hp
   cases b9:isT l (j+2) (tc 59) with
   |false=>
    rw [b9] at hp
    cases hp
    have M:=must_no q l (j+2) 0 0 (tc 59) hj2 b9
    clear AS
    unfold rd at *
    repeat' first|((with_reducible refine DrawReg.id ?_);refine draw2' cx [(q,_)] [(r,_),(rv,_)] rfl [3] [1,5,7] [0,1,2,3,4,5,6,7] (by repeat first|exact HTake.nil|(apply HTake.cons;focus (repeat first|exact HPick.hit))) rfl (by decide +kernel) ?_)|(refine D2.quiet rfl rfl rfl rfl ?_;(conv=>arg 7;whnf))|(refine D2.one rfl rfl rfl rfl ?_;(conv=>arg 7;whnf))|(refine D2.two rfl rfl rfl rfl rfl ?_;(conv=>arg 7;whnf))|refine D2.nil rfl ?_|(refine TStp.callF rfl (C) ?_)|refine Ops.tag rfl ?_|(refine OpsT.go ?_;(conv=>arg 7;whnf))|refine Stp.pure rfl ?_|refine PutK.mk' rfl ?_|refine Ops.nil ?_|refine DStp.pure rfl ?_|refine PutD.mk' rfl ?_|((with_reducible refine Look.id ?_);refine Look.at ?_;try (conv=>arg 7;whnf))|((with_reducible refine Side.id ?_);first|refine Side.auto ?_)|((with_reducible refine Br.id ?_);first|(with_reducible first|refine br_true rfl ?_))|((with_reducible refine SemWp.id ?_);first|refine sem_seq ?_|refine sem_region rfl ?_|refine sem_cond rfl ?_|refine sem_block ?_|refine sem_skip ?_|refine sem_draw ?_)|((with_reducible refine qThen.id ?_);first|refine qThen.go ?_)|refine Stp.valS ?_|refine Stp.look ?_|refine Stp.call ?_|refine DStp.valS ?_|refine DStp.look ?_|((with_reducible refine CallWp.id ?_);first|(refine callA cx (V) ?_;(conv=>whnf))|(refine callB cx (M) ?_;(conv=>whnf)))|((with_reducible refine BodyR.id ?_);first|refine BodyR.pan ?_)|refine TStp.look ?_|refine TStp.val ?_|refine TStp.upd [(_,.cells _ _),(_,_)] rfl rfl (by repeat first|exact HsetIs.hit) ?_|refine TStp.app [(_,_),(_,.tok _)] (by repeat first|exact HsetIs.hit|apply HsetIs.miss (by first|assumption)) ?_
    refine Fin.mk ?_
    refine ⟨WeakerE.refl _,Subp.tk⟩
   |true=>
    rw [b9] at hp
    have M:=must_yes q l (j+2) 0 0 (tc 59) wf hj2 b9
    have hj3:=wf.more (j+2) hj2 (isT_kind b9)
    clear AS
    unfold rd at *
    repeat' first|((with_reducible refine DrawReg.id ?_);refine draw2' cx [(q,_)] [(r,_),(rv,_)] rfl [3] [1,5,7] [0,1,2,3,4,5,6,7] (by repeat first|exact HTake.nil|(apply HTake.cons;focus (repeat first|exact HPick.hit))) rfl (by decide +kernel) ?_)|(refine D2.quiet rfl rfl rfl rfl ?_;(conv=>arg 7;whnf))|(refine D2.one rfl rfl rfl rfl ?_;(conv=>arg 7;whnf))|(refine D2.two rfl rfl rfl rfl rfl ?_;(conv=>arg 7;whnf))|refine D2.nil rfl ?_|(refine TStp.callF rfl (C) ?_)|refine Ops.tag rfl ?_|(refine OpsT.go ?_;(conv=>arg 7;whnf))|refine Stp.pure rfl ?_|refine PutK.mk' rfl ?_|refine Ops.nil ?_|refine DStp.pure rfl ?_|refine PutD.mk' rfl ?_|((with_reducible refine Look.id ?_);refine Look.at ?_;try (conv=>arg 7;whnf))|((with_reducible refine Side.id ?_);first|refine Side.auto ?_)|((with_reducible refine Br.id ?_);first|(with_reducible first|refine br_true rfl ?_))|((with_reducible refine SemWp.id ?_);first|refine sem_seq ?_|refine sem_region rfl ?_|refine sem_cond rfl ?_|refine sem_block ?_|refine sem_skip ?_|refine sem_draw ?_)|((with_reducible refine qThen.id ?_);first|refine qThen.go ?_)|((with_reducible refine hinBlock.id ?_);first|refine hinBlock.go ?_)|((with_reducible refine hround.id ?_);first|refine hround.go ?_)|refine Stp.valS ?_|refine Stp.look ?_|refine Stp.call ?_|refine DStp.valS ?_|refine DStp.look ?_|((with_reducible refine CallWp.id ?_);first|(refine callA cx (V) ?_;(conv=>whnf))|(refine callA cx (M) ?_;(conv=>whnf)))|refine TStp.look ?_|refine TStp.val ?_|refine TStp.upd [(_,.cells _ _),(_,_)] rfl rfl (by repeat first|exact HsetIs.hit) ?_|refine TStp.app [(_,_),(_,.tok _)] (by repeat first|exact HsetIs.hit|apply HsetIs.miss (by first|assumption)) ?_
    refine Fin.mk ⟨g,acc ++ [t0],j+3,(),⟨hj3,by rw [e2];omega,hp⟩,by omega,Sub.cons rfl rfl (Sub.cons rfl rfl (Sub.cons rfl rfl (Sub.nil _))),?_⟩
    rw [e1,e2]
    exact Subp.tk
end Go.Proofs.Hk

set_option linter.unusedSimpArgs false
set_option linter.unusedVariables false
set_option maxRecDepth 4000
namespace Go.Proofs.Hk
open Go Go.Proofs
set_option maxHeartbeats 8000000 in
theorem pr_t1 (l:List Tk) (q i:Nat) (wn:WfN l) (f:Nat) (nm:ByteArray) (ps:List ByteArray) (j4:Nat) (rs:ByteArray) (M1:To 25 [.ptr q 0,ss kProc] [(q,rd l i 0 0)] (.ret (.tup [])) [(q,rd l (i+1:Nat) 0 0)])(NM:To 26 [.ptr q 0] [(q,rd l (i+1:Nat) 0 0)] (.ret (ss nm)) [(q,rd l (i+1+1:Nat) 0 0)])(C:∀ (pp rb rt:Nat),pp≠rb→q≠rb→q≠pp→rt≠rb→rt≠pp→rt≠q→To 27 [.ptr q 0,pFn pp rb] ((q,rd l (i+2:Nat) 0 0)::pT pp rb rt q nm [] ⟨#[]⟩ (.v (.slice none 0 0)) (.v (.slice none 0 0))) (.ret (.tup [])) ((q,rd l j4 0 0)::pT pp rb rt q nm ps ⟨#[]⟩ (.v (.slice none 0 0)) (.v (.slice none 0 0))))(IA:To 29 [.ptr q 0,ss ⟨#[45,62]⟩] [(q,rd l j4 0 0)] (.ret (bb true)) [(q,rd l (j4+1:Nat) 0 0)])(IN:To 26 [.ptr q 0] [(q,rd l (j4+1:Nat) 0 0)] (.ret (ss rs)) [(q,rd l (j4+1+1:Nat) 0 0)])(MB:To 25 [.ptr q 0,ss (tc 123)] [(q,rd l (j4+1+1:Nat) 0 0)] (.ret (.tup [])) [(q,rd l (j4+1+1+1:Nat) 0 0)]) (hi6:(j4+1+1)+1 < l.length) (res) (h:(bindR (pVars l f [] 0 ((j4+1+1)+1)) fun vs i7=>bindR (pS l f (.stmts []) 0 i7) fun b i8=>bindR (pMust l (tc 125) 0 i8) fun _ i9=>okR (⟨nm,ps,rs,vs,b⟩:PD) i9)=some res):goalP 12 [.ptr q 0] [(q,rd l i 0 0)] l q res:=by
 have wf:=wn.toWfT
 have wl:=wf.len
 have AS:=allS l wn f
 unfold pT pFn pC ownS at *
 dsimp only [List.map_nil,List.length_nil] at C
 refine goalP.of ?_
 unfold rd at *
 refine sem_calls' cx (fn:=Tryz.f12) rfl rfl rfl rfl ?_
 repeat' first|(refine sem_cellOwn cx _ 1 [ss nm] [ss ⟨#[]⟩,.v (.slice none 0 0),.v (.slice none 0 0)] (by repeat first|exact HPick.hit|apply HPick.miss) ?_;intro rt hrt;simp only [keys,List.map_cons,List.map_nil,List.mem_cons,List.not_mem_nil,not_or,or_false,not_false_eq_true] at hrt;(repeat (obtain ⟨_,hrt⟩:=hrt));simp only [List.cons_append,List.nil_append])|refine Ops.tag rfl ?_|(refine OpsT.go ?_;(conv=>arg 7;whnf))|refine Stp.pure rfl ?_|((with_reducible refine PutK.isSet ?_);refine PutK.set (by repeat first|exact HsetIs.hit|apply HsetIs.miss (by first|(apply Ne.symm;assumption))) ?_)|refine PutK.mk' rfl ?_|refine Ops.nil ?_|((with_reducible refine Look.id ?_);refine Look.at ?_;try (conv=>arg 7;whnf))|((with_reducible refine Side.id ?_);first|refine Side.auto ?_)|((with_reducible refine Br.id ?_);first|(with_reducible first|refine br_true rfl ?_))|((with_reducible refine SemWp.id ?_);first|refine sem_seq ?_|refine sem_region rfl ?_|refine sem_cond rfl ?_|refine sem_block ?_)|((with_reducible refine qThen.id ?_);first|refine qThen.go ?_)|refine Stp.valS ?_|refine Stp.look ?_|refine Stp.call ?_|refine Stp.eff ?_|((with_reducible refine CallWp.id ?_);first|(refine callA cx (M1) ?_;(conv=>whnf))|(refine callA cx (NM) ?_;(conv=>whnf))|(refine callA cx (C _ _ rt (by first|assumption) (by first|(apply Ne.symm;assumption)) (by first|(apply Ne.symm;assumption)) (by first|assumption) (by first|assumption) (by first|assumption)) ?_;(conv=>whnf))|(refine callA cx (IA) ?_;(conv=>whnf))|(refine callA cx (IN) ?_;(conv=>whnf))|(refine callA cx (MB) ?_;(conv=>whnf)))|(refine newN (fun r hr=>?_);simp only [keys,List.nil_append,List.cons_append,List.map_cons,List.map_nil,List.mem_cons,List.not_mem_nil,not_or,or_false,not_false_eq_true] at hr;(repeat (obtain ⟨_,hr⟩:=hr)))|((with_reducible refine Upd.id ?_);first|(refine Upd.lit rfl ?_;(conv=>whnf)))
 clear C M1 MB NM IN
 rename_i rb hrb r2 na1 na2 na3 na4 na5 na6 na7
 refine sem_cellOwn cx _ 1 [ss nm,.list (.own rt 0) 1 (ps.map ss),ss rs] [.v (.slice none 0 0)] (by repeat first|exact HPick.hit|apply HPick.miss) ?_
 intro rv hrv
 simp only [keys,List.map_cons,List.map_nil,List.mem_cons,List.not_mem_nil,not_or,or_false,not_false_eq_true] at hrv
 (repeat (obtain ⟨_,hrv⟩:=hrv))
 simp only [List.cons_append,List.nil_append]
 have ne_q_rb:q≠rb:=(by first|assumption|(apply Ne.symm;assumption)|omega);have ne_q_r2:q≠r2:=(by first|assumption|(apply Ne.symm;assumption)|omega);have ne_q_r:q≠r:=(by first|assumption|(apply Ne.symm;assumption)|omega);have ne_q_rt:q≠rt:=(by first|assumption|(apply Ne.symm;assumption)|omega);have ne_q_rv:q≠rv:=(by first|assumption|(apply Ne.symm;assumption)|omega);have ne_rb_q:rb≠q:=(by first|assumption|(apply Ne.symm;assumption)|omega);have ne_rb_r2:rb≠r2:=(by first|assumption|(apply Ne.symm;assumption)|omega);have ne_rb_r:rb≠r:=(by first|assumption|(apply Ne.symm;assumption)|omega);have ne_rb_rt:rb≠rt:=(by first|assumption|(apply Ne.symm;assumption)|omega);have ne_rb_rv:rb≠rv:=(by first|assumption|(apply Ne.symm;assumption)|omega);have ne_r2_q:r2≠q:=(by first|assumption|(apply Ne.symm;assumption)|omega);have ne_r2_rb:r2≠rb:=(by first|assumption|(apply Ne.symm;assumption)|omega);have ne_r2_r:r2≠r:=(by first|assumption|(apply Ne.symm;assumption)|omega);have ne_r2_rt:r2≠rt:=(by first|assumption|(apply Ne.symm;assumption)|omega);have ne_r2_rv:r2≠rv:=(by first|assumption|(apply Ne.symm;assumption)|omega);have ne_r_q:r≠q:=(by first|assumption|(apply Ne.symm;assumption)|omega);have ne_r_rb:r≠rb:=(by first|assumption|(apply Ne.symm;assumption)|omega);have ne_r_r2:r≠r2:=(by first|assumption|(apply Ne.symm;assumption)|omega);have ne_r_rt:r≠rt:=(by first|assumption|(apply Ne.symm;assumption)|omega);have ne_r_rv:r≠rv:=(by first|assumption|(apply Ne.symm;assumption)|omega);have ne_rt_q:rt≠q:=(by first|assumption|(apply Ne.symm;assumption)|omega);have ne_rt_rb:rt≠rb:=(by first|assumption|(apply Ne.symm;assumption)|omega);have ne_rt_r2:rt≠r2:=(by first|assumption|(apply Ne.symm;assumption)|omega);have ne_rt_r:rt≠r:=(by first|assumption|(apply Ne.symm;assumption)|omega);have ne_rt_rv:rt≠rv:=(by first|assumption|(apply Ne.symm;assumption)|omega);have ne_rv_q:rv≠q:=(by first|assumption|(apply Ne.symm;assumption)|omega);have ne_rv_rb:rv≠rb:=(by first|assumption|(apply Ne.symm;assumption)|omega);have ne_rv_r2:rv≠r2:=(by first|assumption|(apply Ne.symm;assumption)|omega);have ne_rv_r:rv≠r:=(by first|assumption|(apply Ne.symm;assumption)|omega);have ne_rv_rt:rv≠rt:=(by first|assumption|(apply Ne.symm;assumption)|omega)
 refine sem_loop4 cx (fun g acc j (_:Unit)=>j < l.length∧acc.length≤j∧(bindR (pVars l g acc 0 j) fun vs i7=>bindR (pS l f (.stmts []) 0 i7) fun b i8=>bindR (pMust l (tc 125) 0 i8) fun _ i9=>okR (⟨nm,ps,rs,vs,b⟩:PD) i9)=some res) (fun g acc j _=>[(1,.sure,.ptr rb 0),(2,.sure,.ptr r2 0),(3,.sure,.ptr r 0)]) (fun g acc j _=>[(q,.cells [LTk l,ii j,ii 0,ii 0] 47),(r,.cells [ss nm,.list (.own rt 0) 1 (ps.map ss),ss rs,.list (.own rv 0) 1 (acc.map ss),.v (.slice none 0 0)] 37),(rv,.tok acc.length),(rb,.cells [.ptr q 0] 45),(r2,.cells [.v (.string ⟨#[]⟩),.v (.slice none 0 0),.v (.string ⟨#[]⟩),.v (.slice none 0 0),.v (.slice none 0 0)] 37),(rt,.tok ps.length)]) (fun g=>g) f [] ((j4+1+1)+1) () ⟨hi6,Nat.zero_le _,h⟩ (Sub.cons rfl rfl (Sub.cons rfl rfl (Sub.cons rfl rfl (Sub.nil _)))) Subp.tk ?_
 clear h
 rintro g acc j _ ⟨hj,hla,hp⟩
 have ml:(acc.map ss).length=acc.length:=by simp
 cases g with
 |zero=>cases hp
 |succ g=>
 unfold pVars at hp
 cases b7:isT l j kVar with
 |false=>
  rw [if_neg (by rw [b7];exact Bool.false_ne_true)] at hp
  have hp:(bindR (pS l f (.stmts []) 0 j) fun b i8=>bindR (pMust l (tc 125) 0 i8) fun _ i9=>okR (⟨nm,ps,rs,acc,b⟩:PD) i9)=some res:=hp
  have V:=may_no q l j 0 0 kVar hj b7
  cases hb:pS l f (.stmts []) 0 j with
  |none=>rw [hb] at hp;cases hp
  |some r1=>
  rw [hb] at hp
  have C:=AS.stmts f (Nat.le_refl _) q 0 j r1 hj (by omega) (by omega) hb
  cases r1 with
  |error x=>
   obtain ⟨c,m,d'⟩:=x
   cases hp
   have C:To 30 [.ptr q 0] [(q,rd l j 0 0)] (.pan failV) [(q,rd l m d' c)]:=C
   clear AS hb
   unfold rd at *
   repeat' first|refine Ops.tag rfl ?_|(refine OpsT.go ?_;(conv=>arg 7;whnf))|refine Stp.pure rfl ?_|refine PutK.mk' rfl ?_|refine Ops.nil ?_|((with_reducible refine Look.id ?_);refine Look.at ?_;try (conv=>arg 7;whnf))|((with_reducible refine Side.id ?_);first|refine Side.auto ?_)|((with_reducible refine Br.id ?_);first|(with_reducible first|refine br_false rfl ?_))|((with_reducible refine SemWp.id ?_);first|refine sem_seq ?_|refine sem_region rfl ?_|refine sem_cond rfl ?_|refine sem_exit ?_)|((with_reducible refine qThen.id ?_);first|refine qThen.go ?_)|refine Stp.valS ?_|refine Stp.look ?_|refine Stp.call ?_|((with_reducible refine CallWp.id ?_);first|(refine callA cx (V) ?_;(conv=>whnf))|(refine callB cx (C) ?_;(conv=>whnf)))|((with_reducible refine BodyR.id ?_);first|refine BodyR.pan ?_)
   refine Fin.mk ?_
   refine ⟨WeakerE.refl _,Subp.tk⟩
  |ok x=>
   obtain ⟨b,m⟩:=x
   have C:To 30 [.ptr q 0] [(q,rd l j 0 0)] (.ret (LSDs b)) [(q,rd l m 0 0)]:=C
   have hm:=(pS_facts wf f _ 0 j b m hj hb).1
   have hp:(bindR (if isT l m (tc 125)=true then okR () (m+1) else errR 4 m 0) fun _ i9=>okR (⟨nm,ps,rs,acc,b⟩:PD) i9)=some res:=hp
   cases b8:isT l m (tc 125) with
   |false=>
    rw [b8] at hp
    cases hp
    have M:=must_no q l m 0 0 (tc 125) hm b8
    clear AS hb
    unfold rd at *
    repeat' first|refine Ops.tag rfl ?_|(refine OpsT.go ?_;(conv=>arg 7;whnf))|refine Stp.pure rfl ?_|((with_reducible refine PutK.isSet ?_);refine PutK.st ?_)|refine PutK.mk' rfl ?_|refine Ops.nil ?_|((with_reducible refine Look.id ?_);refine Look.at ?_;try (conv=>arg 7;whnf))|((with_reducible refine Side.id ?_);first|refine Side.auto ?_)|((with_reducible refine Br.id ?_);first|(with_reducible first|refine br_false rfl ?_))|((with_reducible refine SemWp.id ?_);first|refine sem_seq ?_|refine sem_region rfl ?_|refine sem_cond rfl ?_|refine sem_exit ?_)|((with_reducible refine qThen.id ?_);first|refine qThen.go ?_)|refine Stp.valS ?_|refine Stp.look ?_|refine Stp.call ?_|refine Stp.eff ?_|((with_reducible refine CallWp.id ?_);first|(refine callA cx (V) ?_;(conv=>whnf))|(refine callA cx (C) ?_;(conv=>whnf))|(refine callB cx (M) ?_;(conv=>whnf)))|((with_reducible refine BodyR.id ?_);first|refine BodyR.pan ?_)|((with_reducible refine Upd.id ?_);first|(refine Upd.lit rfl ?_;(conv=>whnf)))
    refine Fin.mk ?_
    refine ⟨WeakerE.refl _,Subp.tk⟩
   |true=>
    rw [b8] at hp
    cases hp
    have M:=must_yes q l m 0 0 (tc 125) wf hm b8
    clear AS hb
    unfold rd at *
    repeat' first|refine Ops.tag rfl ?_|(refine OpsT.go ?_;(conv=>arg 7;whnf))|refine Stp.pure rfl ?_|((with_reducible refine PutK.isSet ?_);refine PutK.st ?_)|refine PutK.mk' rfl ?_|refine Ops.nil ?_|((with_reducible refine Look.id ?_);refine Look.at ?_;try (conv=>arg 7;whnf))|((with_reducible refine Side.id ?_);first|refine Side.auto ?_)|((with_reducible refine Br.id ?_);first|(with_reducible first|refine br_false rfl ?_))|((with_reducible refine SemWp.id ?_);first|refine sem_seq ?_|refine sem_region rfl ?_|refine sem_cond rfl ?_|refine sem_exit ?_|refine sem_ret ?_)|((with_reducible refine qThen.id ?_);first|refine qThen.go ?_)|refine Stp.valS ?_|refine Stp.look ?_|refine Stp.call ?_|refine Stp.eff ?_|((with_reducible refine CallWp.id ?_);first|(refine callA cx (V) ?_;(conv=>whnf))|(refine callA cx (C) ?_;(conv=>whnf))|(refine callA cx (M) ?_;(conv=>whnf)))|((with_reducible refine BodyR.id ?_);first|refine BodyR.ret ?_)|((with_reducible refine ResG.id ?_);first|refine ResG.cell rfl ?_|refine ResG.nil ?_)|((with_reducible refine LoadIs.id ?_);first|refine LoadIs.ag rfl rfl rfl ?_)|((with_reducible refine Upd.id ?_);first|(refine Upd.lit rfl ?_;(conv=>whnf)))
    refine Fin.mk ?_
    refine ⟨(by refine WeakerE.ret (Weaker.agg ?_);(repeat first|exact WeakerC.nil|refine WeakerC.cons ?_ rfl ?_|exact Weaker.refl _|exact Weaker.nil _|exact Weaker.tok _ _ _)),Subp.tk⟩
 |true=>
  rw [if_pos b7] at hp
  have V:=may_yes q l j 0 0 kVar wf hj b7
  have hj1:=wf.more j hj (isT_kind b7)
  unfold pName at hp
  by_cases k1:(tk l (j+1)).kind=1
  rotate_left
  ·rw [if_neg k1] at hp
   cases hp
   have C:=name_no q l (j+1) 0 0 hj1 k1
   clear AS
   unfold rd at *
   repeat' first|((with_reducible refine DrawReg.id ?_);refine drawPanC cx 3 [4,5,6,7] [0,1,2] [2] (C) (by repeat first|exact HTake.nil|(apply HTake.cons;focus (repeat first|exact HPick.hit))) rfl (by decide +kernel) (by decide +kernel) rfl rfl ?_ ?_;rotate_left;(conv=>whnf);rotate_left)|(refine DOpsL.cons rfl rfl ?_;(conv=>arg 7;whnf))|(refine DOpsL.nil ⟨rfl,_,rfl,rfl⟩)|refine Ops.tag rfl ?_|(refine OpsT.go ?_;(conv=>arg 7;whnf))|refine Stp.pure rfl ?_|refine PutK.mk' rfl ?_|refine Ops.nil ?_|refine DStp.pure rfl ?_|((with_reducible refine Look.id ?_);refine Look.at ?_;try (conv=>arg 7;whnf))|((with_reducible refine Side.id ?_);first|refine Side.auto ?_)|((with_reducible refine Br.id ?_);first|(with_reducible first|refine br_true rfl ?_))|((with_reducible refine SemWp.id ?_);first|refine sem_seq ?_|refine sem_region rfl ?_|refine sem_cond rfl ?_|refine sem_block ?_|refine sem_skip ?_|refine sem_draw ?_)|((with_reducible refine qThen.id ?_);first|refine qThen.go ?_)|refine Stp.valS ?_|refine Stp.look ?_|refine Stp.call ?_|refine DStp.valS ?_|refine DStp.look ?_|((with_reducible refine CallWp.id ?_);first|(refine callA cx (V) ?_;(conv=>whnf)))|((with_reducible refine BodyR.id ?_);first|refine BodyR.pan ?_)
   refine Fin.mk ?_
   refine ⟨WeakerE.refl _,Subp.tk⟩
  ·rw [if_pos k1] at hp
   have C:=name_yes q l (j+1) 0 0 wf hj1 k1
   have hj2:=wf.more (j+1) hj1 (by omega)
   generalize (tk l (j+1)).text=t0 at *
   have e1:(acc ++ [t0]).map ss=acc.map ss ++ [ss t0]:=by simp
   have e2:(acc ++ [t0]).length=acc.length+1:=by simp
   have hp:(bindR (bindR (if isT l (j+2) (tc 59)=true then okR () (j+2+1) else errR 4 (j+2) 0) fun _ m=>pVars l g (acc ++ [t0]) 0 m) fun vs i7=>bindR (pS l f (.stmts []) 0 i7) fun b i8=>bindR (pMust l (tc 125) 0 i8) fun _ i9=>okR (⟨nm,ps,rs,vs,b⟩:PD) i9)=some res:=hp
   cases b9:isT l (j+2) (tc 59) with
   |false=>
    rw [b9] at hp
    cases hp
    have M:=must_no q l (j+2) 0 0 (tc 59) hj2 b9
    clear AS
    unfold rd at *
    repeat' first|((with_reducible refine DrawReg.id ?_);refine draw2' cx [(q,_)] [(r,_),(rv,_)] rfl [3] [1,5,7] [0,1,2,3,4,5,6,7] (by repeat first|exact HTake.nil|(apply HTake.cons;focus (repeat first|exact HPick.hit))) rfl (by decide +kernel) ?_)|(refine D2.quiet rfl rfl rfl rfl ?_;(conv=>arg 7;whnf))|(refine D2.one rfl rfl rfl rfl ?_;(conv=>arg 7;whnf))|(refine D2.two rfl rfl rfl rfl rfl ?_;(conv=>arg 7;whnf))|refine D2.nil rfl ?_|(refine TStp.callF rfl (C) ?_)|refine Ops.tag rfl ?_|(refine OpsT.go ?_;(conv=>arg 7;whnf))|refine Stp.pure rfl ?_|refine PutK.mk' rfl ?_|refine Ops.nil ?_|refine DStp.pure rfl ?_|refine PutD.mk' rfl ?_|((with_reducible refine Look.id ?_);refine Look.at ?_;try (conv=>arg 7;whnf))|((with_reducible refine Side.id ?_);first|refine Side.auto ?_)|((with_reducible refine Br.id ?_);first|(with_reducible first|refine br_true rfl ?_))|((with_reducible refine SemWp.id ?_);first|refine sem_seq ?_|refine sem_region rfl ?_|refine sem_cond rfl ?_|refine sem_block ?_|refine sem_skip ?_|refine sem_draw ?_)|((with_reducible refine qThen.id ?_);first|refine qThen.go ?_)|refine Stp.valS ?_|refine Stp.look ?_|refine Stp.call ?_|refine DStp.valS ?_|refine DStp.look ?_|((with_reducible refine CallWp.id ?_);first|(refine callA cx (V) ?_;(conv=>whnf))|(refine callB cx (M) ?_;(conv=>whnf)))|((with_reducible refine BodyR.id ?_);first|refine BodyR.pan ?_)|refine TStp.look ?_|refine TStp.val ?_|refine TStp.upd [(_,.cells _ _),(_,_)] rfl rfl (by repeat first|exact HsetIs.hit) ?_|refine TStp.app [(_,_),(_,.tok _)] (by repeat first|exact HsetIs.hit|apply HsetIs.miss (by first|assumption)) ?_
    refine Fin.mk ?_
    refine ⟨WeakerE.refl _,Subp.tk⟩
   |true=>
    rw [b9] at hp
    have M:=must_yes q l (j+2) 0 0 (tc 59) wf hj2 b9
    have hj3:=wf.more (j+2) hj2 (isT_kind b9)
    clear AS
    unfold rd at *
    repeat' first|((with_reducible refine DrawReg.id ?_);refine draw2' cx [(q,_)] [(r,_),(rv,_)] rfl [3] [1,5,7] [0,1,2,3,4,5,6,7] (by repeat first|exact HTake.nil|(apply HTake.cons;focus (repeat first|exact HPick.hit))) rfl (by decide +kernel) ?_)|(refine D2.quiet rfl rfl rfl rfl ?_;(conv=>arg 7;whnf))|(refine D2.one rfl rfl rfl rfl ?_;(conv=>arg 7;whnf))|(refine D2.two rfl rfl rfl rfl rfl ?_;(conv=>arg 7;whnf))|refine D2.nil rfl ?_|(refine TStp.callF rfl (C) ?_)|refine Ops.tag rfl ?_|(refine OpsT.go ?_;(conv=>arg 7;whnf))|refine Stp.pure rfl ?_|refine PutK.mk' rfl ?_|refine Ops.nil ?_|refine DStp.pure rfl ?_|refine PutD.mk' rfl ?_|((with_reducible refine Look.id ?_);refine Look.at ?_;try (conv=>arg 7;whnf))|((with_reducible refine Side.id ?_);first|refine Side.auto ?_)|((with_reducible refine Br.id ?_);first|(with_reducible first|refine br_true rfl ?_))|((with_reducible refine SemWp.id ?_);first|refine sem_seq ?_|refine sem_region rfl ?_|refine sem_cond rfl ?_|refine sem_block ?_|refine sem_skip ?_|refine sem_draw ?_)|((with_reducible refine qThen.id ?_);first|refine qThen.go ?_)|((with_reducible refine hinBlock.id ?_);first|refine hinBlock.go ?_)|((with_reducible refine hround.id ?_);first|refine hround.go ?_)|refine Stp.valS ?_|refine Stp.look ?_|refine Stp.call ?_|refine DStp.valS ?_|refine DStp.look ?_|((with_reducible refine CallWp.id ?_);first|(refine callA cx (V) ?_;(conv=>whnf))|(refine callA cx (M) ?_;(conv=>whnf)))|refine TStp.look ?_|refine TStp.val ?_|refine TStp.upd [(_,.cells _ _),(_,_)] rfl rfl (by repeat first|exact HsetIs.hit) ?_|refine TStp.app [(_,_),(_,.tok _)] (by repeat first|exact HsetIs.hit|apply HsetIs.miss (by first|assumption)) ?_
    refine Fin.mk ⟨g,acc ++ [t0],j+3,(),⟨hj3,by rw [e2];omega,hp⟩,by omega,Sub.cons rfl rfl (Sub.cons rfl rfl (Sub.cons rfl rfl (Sub.nil _))),?_⟩
    rw [e1,e2]
    exact Subp.tk
end Go.Proofs.Hk

set_option linter.unusedSimpArgs false
set_option linter.unusedVariables false
set_option maxRecDepth 4000
namespace Go.Proofs.Hk
open Go Go.Proofs
theorem proc_lvl (l:List Tk) (wn:WfN l) (q:Nat) (i:Nat) (hi:i < l.length) (f:Nat) (res) (h:pProc l f i=some res):goalP 12 [.ptr q 0] [(q,rd l i 0 0)] l q res:=by
 have wf:=wn.toWfT
 have wl:=wf.len
 unfold pProc pMust at h
 cases b0:isT l i kProc with
 |false=>
  rw [b0] at h
  cases h
  exact pr_a l q i (must_no q l i 0 0 kProc hi b0)
 |true=>
 rw [b0] at h
 have M1:=must_yes q l i 0 0 kProc wf hi b0
 have hi1:=wf.more i hi (isT_kind b0)
 have h:(bindR (pName l 0 (i+1)) fun n i2=>bindR (pMust l (tc 40) 0 i2) fun _ i3=>bindR (pNames0 l f 0 i3) fun ps i4=>
  bindR (if isT l i4 ⟨#[45,62]⟩=true then pName l 0 (i4+1) else okR noS i4) fun r i5=>bindR (pMust l (tc 123) 0 i5) fun _ i6=>
  bindR (pVars l f [] 0 i6) fun vs i7=>bindR (pS l f (.stmts []) 0 i7) fun b i8=>bindR (pMust l (tc 125) 0 i8) fun _ i9=>okR (⟨n,ps,r,vs,b⟩:PD) i9)=some res:=h
 by_cases k1:(tk l (i+1)).kind=1
 rotate_left
 ·unfold pName at h
  rw [if_neg k1] at h
  cases h
  exact pr_b l q i M1 (name_no q l (i+1) 0 0 hi1 k1)
 have NM:=name_yes q l (i+1) 0 0 wf hi1 k1
 have hi2:=wf.more (i+1) hi1 (by omega)
 rw [show pName l 0 (i+1)=okR (tk l (i+1)).text (i+1+1) by unfold pName;rw [if_pos k1]] at h
 generalize (tk l (i+1)).text=nm at *
 have h:(bindR (bindR (pMust l (tc 40) 0 (i+2)) fun _ i3=>pNames0 l f 0 i3) fun ps i4=>
  bindR (if isT l i4 ⟨#[45,62]⟩=true then pName l 0 (i4+1) else okR noS i4) fun r i5=>bindR (pMust l (tc 123) 0 i5) fun _ i6=>
  bindR (pVars l f [] 0 i6) fun vs i7=>bindR (pS l f (.stmts []) 0 i7) fun b i8=>bindR (pMust l (tc 125) 0 i8) fun _ i9=>okR (⟨nm,ps,r,vs,b⟩:PD) i9)=some res:=by rw [bindR_assoc];exact h
 cases hb:pNl l f 0 (i+2) with
 |none=>rw [show (bindR (pMust l (tc 40) 0 (i+2)) fun _ i3=>pNames0 l f 0 i3)=none from hb] at h;cases h
 |some r1=>
 rw [show (bindR (pMust l (tc 40) 0 (i+2)) fun _ i3=>pNames0 l f 0 i3)=some r1 from hb] at h
 have LN:=fun (pp rb rt:Nat) (n1:pp≠rb) (n2:q≠rb) (n3:q≠pp) (n4:rt≠rb) (n5:rt≠pp) (n6:rt≠q)=>list_names q pp rb rt l wf (i+2) 0 hi2 (by omega) nm ⟨#[]⟩ (.v (.slice none 0 0)) (.v (.slice none 0 0)) ⟨n1,n2,n3,n4,n5,n6⟩ f r1 hb
 cases r1 with
 |error x=>
  obtain ⟨c,j,d'⟩:=x
  cases h
  have C:=fun (pp rb rt:Nat) (n1:pp≠rb) (n2:q≠rb) (n3:q≠pp) (n4:rt≠rb) (n5:rt≠pp) (n6:rt≠q)=>(HCalls.to (HCalls.weaken (LN pp rb rt n1 n2 n3 n4 n5 n6) (R':=fun e st=>WeakerE e (.pan failV)∧Subp [(q,rd l j d' c)] st) fun e st g=>by
   obtain ⟨g1,acc,g2⟩:=g
   exact ⟨e,_,WeakerE.refl _,g2,g1,Subp.take (HTake.cons HPick.hit HTake.nil)⟩):To _ _ _ (.pan failV) [(q,rd l j d' c)])
  exact pr_c l q i nm c j d' M1 NM C
 |ok x=>
 obtain ⟨ps,j4⟩:=x
 have C:=fun (pp rb rt:Nat) (n1:pp≠rb) (n2:q≠rb) (n3:q≠pp) (n4:rt≠rb) (n5:rt≠pp) (n6:rt≠q)=>(HCalls.to (LN pp rb rt n1 n2 n3 n4 n5 n6):To _ _ _ _ _)
 have hj4:j4 < l.length:=by
  unfold pNl at hb
  obtain ⟨x,m,g1,g2⟩:=bindR_ok hb
  exact (pNames0_facts wf (pMust_facts wf hi2 g1).1 g2).1
 have h:(bindR (if isT l j4 ⟨#[45,62]⟩=true then pName l 0 (j4+1) else okR noS j4) fun r i5=>bindR (pMust l (tc 123) 0 i5) fun _ i6=>
  bindR (pVars l f [] 0 i6) fun vs i7=>bindR (pS l f (.stmts []) 0 i7) fun b i8=>bindR (pMust l (tc 125) 0 i8) fun _ i9=>okR (⟨nm,ps,r,vs,b⟩:PD) i9)=some res:=h
 cases b4:isT l j4 ⟨#[45,62]⟩ with
 |false=>
  rw [if_neg (by rw [b4];exact Bool.false_ne_true)] at h
  have IN:=may_no q l j4 0 0 ⟨#[45,62]⟩ hj4 b4
  unfold noS at h
  have h:(bindR (if isT l j4 (tc 123)=true then okR () (j4+1) else errR 4 j4 0) fun _ i6=>bindR (pVars l f [] 0 i6) fun vs i7=>bindR (pS l f (.stmts []) 0 i7) fun b i8=>bindR (pMust l (tc 125) 0 i8) fun _ i9=>okR (⟨nm,ps,⟨#[]⟩,vs,b⟩:PD) i9)=some res:=h
  cases b6:isT l j4 (tc 123) with
  |false=>
   rw [b6] at h
   cases h
   exact pr_e0 l q i nm ps j4 M1 NM C IN (must_no q l j4 0 0 (tc 123) hj4 b6)
  |true=>
   rw [b6] at h
   exact pr_t0 l q i wn f nm ps j4 M1 NM C IN (must_yes q l j4 0 0 (tc 123) wf hj4 b6) (wf.more j4 hj4 (isT_kind b6)) res h
 |true=>
  rw [if_pos b4] at h
  have IA:=may_yes q l j4 0 0 ⟨#[45,62]⟩ wf hj4 b4
  have hj5:=wf.more j4 hj4 (isT_kind b4)
  by_cases k5:(tk l (j4+1)).kind=1
  rotate_left
  ·unfold pName at h
   rw [if_neg k5] at h
   cases h
   exact pr_d l q i nm ps j4 M1 NM C IA (name_no q l (j4+1) 0 0 hj5 k5)
  have IN:=name_yes q l (j4+1) 0 0 wf hj5 k5
  have hj6:=wf.more (j4+1) hj5 (by omega)
  rw [show pName l 0 (j4+1)=okR (tk l (j4+1)).text (j4+1+1) by unfold pName;rw [if_pos k5]] at h
  generalize (tk l (j4+1)).text=rs at *
  have h:(bindR (if isT l (j4+1+1) (tc 123)=true then okR () ((j4+1+1)+1) else errR 4 (j4+1+1) 0) fun _ i6=>bindR (pVars l f [] 0 i6) fun vs i7=>bindR (pS l f (.stmts []) 0 i7) fun b i8=>bindR (pMust l (tc 125) 0 i8) fun _ i9=>okR (⟨nm,ps,rs,vs,b⟩:PD) i9)=some res:=h
  cases b6:isT l (j4+1+1) (tc 123) with
  |false=>
   rw [b6] at h
   cases h
   exact pr_e1 l q i nm ps j4 rs M1 NM C IA IN (must_no q l (j4+1+1) 0 0 (tc 123) hj6 b6)
  |true=>
   rw [b6] at h
   exact pr_t1 l q i wn f nm ps j4 rs M1 NM C IA IN (must_yes q l (j4+1+1) 0 0 (tc 123) wf hj6 b6) (wf.more (j4+1+1) hj6 (isT_kind b6)) res h
end Go.Proofs.Hk

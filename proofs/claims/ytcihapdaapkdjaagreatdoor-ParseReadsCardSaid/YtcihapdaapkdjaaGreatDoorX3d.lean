import Derived.Test.YtcihapdaapkdjaaGreatDoorX1
import Derived.Test.YtcihapdaapkdjaaGreatDoorH41
set_option linter.unusedSimpArgs false
set_option linter.unusedVariables false
set_option maxRecDepth 4000
namespace Go.Proofs.Hk
open Go Go.Proofs
theorem flat_len (e:Ex) (o:Nat):(e.flat o).length=(e.flat 0).length:=by rw [flat_sh e o,List.length_map]
/-- The nodes behind an expression. -/
def gl (acc:List ND) (e:Ex):List ND:=acc ++ e.flat acc.length
theorem gl_len (acc:List ND) (e:Ex):(gl acc e).length=acc.length+(e.flat 0).length:=by unfold gl;rw [List.length_append,flat_len]
theorem gl_bin (acc:List ND) (k:Int) (a b:Ex):gl acc (.bin k a b)=gl (gl acc a) b ++ [⟨k,0,noS,((gl acc a).length:Int) - 1,((gl (gl acc a) b).length:Int) - 1⟩]:=by
 unfold gl
 simp only [Ex.flat,List.length_append,List.append_assoc,Nat.add_assoc]
theorem gl_un (acc:List ND) (k:Int) (a:Ex):gl acc (.un k a)=gl acc a ++ [⟨k,0,noS,((gl acc a).length:Int) - 1,-1⟩]:=by
 unfold gl
 simp only [Ex.flat,List.length_append,List.append_assoc,Nat.add_assoc]
/-- What a function that reads an expression does. -/
def ExG (l:List Tk) (q rt:Nat) (acc:List ND) (i:Nat) (d a:Int) (fn:FuncId) (res:Except (Int × Nat × Int) (Ex × Nat)):Prop:=
 match res with
 |.ok (e,j)=>To fn [.ptr q 0,ow rt acc] [(q,rs l i d 0 a),(rt,.tok acc.length)] (.ret (ow rt (gl acc e))) [(q,rs l j d 0 a),(rt,.tok (gl acc e).length)]
 |.error (c,j,_)=>HCalls cx.P fn [.ptr q 0,ow rt acc] [(q,rs l i d 0 a),(rt,.tok acc.length)] fun e st=>∃ g:List ND,g.length≤acc.length+(j - i)+1∧e = .ret (ow rt g)∧st=[(q,rs l j d c (tk l j).pos),(rt,.tok g.length)]
abbrev endX (l:List Tk) (q rt:Nat) (acc:List ND) (i:Nat) (d a:Int) (res:Except (Int × Nat × Int) (Ex × Nat)) (e:HEnd) (st:HS):Prop:=
 match res with
 |.ok (x,j)=>WeakerE e (.ret (ow rt (gl acc x)))∧Subp [(q,rs l j d 0 a),(rt,.tok (gl acc x).length)] st
 |.error (c,j,_)=>∃ g:List ND,g.length≤acc.length+(j - i)+1∧WeakerE e (.ret (ow rt g))∧Subp [(q,rs l j d c (tk l j).pos),(rt,.tok g.length)] st
theorem ExG.of {l:List Tk} {q rt:Nat} {acc:List ND} {i:Nat} {d a:Int} {fn:FuncId} {res:Except (Int × Nat × Int) (Ex × Nat)} (h:HCalls cx.P fn [.ptr q 0,ow rt acc] [(q,rs l i d 0 a),(rt,.tok acc.length)] (endX l q rt acc i d a res)):ExG l q rt acc i d a fn res:=by
 cases res with
 |ok x=>exact HCalls.to h
 |error x=>exact HCalls.toX h
def ExA (l:List Tk) (n:Nat) (fn:FuncId) (lv:Lv):Prop:=∀ f,f≤n→∀ d i res,i < l.length→0≤d→d≤50→pE l f lv d i=some res→∀ q rt a acc,q≠rt→acc.length≤i→ExG l q rt acc i d a fn res
theorem isT_two {l:List Tk} {i:Nat} {s t:ByteArray} (h:isT l i s=true) (hst:strEq s t=false):isT l i t=false:=by
 unfold isT at *
 simp only [Bool.and_eq_true] at h
 have:=strEq_eq.1 h.2
 rw [this,hst,Bool.and_false]
theorem isT_same {l:List Tk} {i:Nat} {s:ByteArray} : isT l i s=isT l i s:=rfl
abbrev XI:=(Nat × Ex × Nat) ⊕ (Int × Nat × List ND)
end Go.Proofs.Hk

set_option linter.unusedSimpArgs false
set_option linter.unusedVariables false
set_option maxRecDepth 4000
namespace Go.Proofs.Hk
open Go Go.Proofs
set_option maxHeartbeats 4000000 in
theorem rexpr_lvl (l:List Tk) (wf:WfT l) (n:Nat) (IH:ExA l n 70 .term) (i:Nat) (d:Int) (res) (hi:i < l.length) (h0:0≤d) (h1:d≤50) (h:(bindR (pE l n .term d i) fun e j=>pE l n (.exprL e) d j)=some res) (q rt:Nat) (a:Int) (acc:List ND) (hq:q≠rt) (ha:acc.length≤i):ExG l q rt acc i d a 62 res:=by
 have wl:=wf.len
 have hq':rt≠q:=Ne.symm hq
 cases hb:pE l n .term d i with
 |none=>rw [hb] at h;cases h
 |some r1=>
 rw [hb] at h
 have C:=IH n (Nat.le_refl _) d i r1 hi h0 h1 hb q rt a acc hq ha
 cases r1 with
 |error x=>
  obtain ⟨c,j,d'⟩:=x
  cases h
  obtain ⟨hj,hij,hc⟩:=pE_err wf _ _ _ _ hi _ _ _ hb
  have c0:¬ c=0:=by omega
  refine ExG.of ?_
  simp only [ExG] at C
  clear IH hb
  unfold rs ow at *
  refine sem_calls' cx (fn:=Tryz.f62) rfl rfl rfl rfl ?_
  repeat' first|refine Ops.tag rfl ?_|(refine OpsT.go ?_;(conv=>arg 7;whnf))|refine Stp.pure rfl ?_|refine PutK.mk' rfl ?_|refine Ops.nil ?_|((with_reducible refine Side.id ?_);first|refine Side.auto ?_)|((with_reducible refine SemWp.id ?_);first|refine sem_seq ?_|refine sem_region rfl ?_|refine sem_block ?_)|((with_reducible refine qThen.id ?_);first|refine qThen.go ?_)|refine Stp.call ?_|((with_reducible refine CallWp.id ?_);first|(refine callX cx (C) (fun g hg=>?_);(conv=>whnf)))
  refine sem_loop cx (ι:=Unit) (fun _=>True) (fun _=>[(0,.sure,.ptr q 0),(1,.sure,.list (.own rt 0) 5 (g.map encN))]) (fun _=>[(q,.cells [LTk l,ii j,ii d,ii c,ii (tk l j).pos] 56),(rt,.tok g.length)]) (fun _=>0) () trivial (by repeat' first|exact Sub.nil _|refine Sub.auto ?_) Subp.tk ?_
  rintro _ _
  repeat' first|refine Ops.tag rfl ?_|(with_reducible first|refine OpsT.andF ?_|refine OpsT.no ?_)|(refine OpsT.go ?_;(conv=>arg 7;whnf))|(with_reducible first|refine Stp.andF ?_)|((with_reducible refine Stp.isEq ?_);first|refine Stp.eqF ?_)|refine Stp.pure rfl ?_|refine PutK.mk' rfl ?_|refine Ops.nil ?_|((with_reducible refine Look.id ?_);refine Look.at ?_;try (conv=>arg 7;whnf))|((with_reducible refine Side.id ?_);first|refine Side.auto ?_)|((with_reducible refine Br.id ?_);first|(with_reducible first|refine br_false rfl ?_))|((with_reducible refine SemWp.id ?_);first|refine sem_seq ?_|refine sem_region rfl ?_|refine sem_cond rfl ?_|refine sem_exit ?_|refine sem_ret ?_)|((with_reducible refine qThen.id ?_);first|refine qThen.go ?_)|refine Stp.valS ?_|refine Stp.look ?_|((with_reducible refine BodyR.id ?_);first|refine BodyR.ret ?_)|((with_reducible refine ResG.id ?_);first|refine ResG.tmp rfl ?_|refine ResG.nil ?_)
  refine Fin.mk ⟨g,hg,WeakerE.refl _,Subp.tk⟩
 |ok x=>
  obtain ⟨e0,j0⟩:=x
  have h:pE l n (.exprL e0) d j0=some res:=h
  obtain ⟨hj0,hij0,hl0⟩:=pE_facts wf _ _ _ _ _ _ hi hb
  simp only [Lv.base] at hl0
  have zl0:=gl_len acc e0
  have C:To 70 [.ptr q 0,ow rt acc] [(q,rs l i d 0 a),(rt,.tok acc.length)] (.ret (ow rt (gl acc e0))) [(q,rs l j0 d 0 a),(rt,.tok (gl acc e0).length)]:=C
  refine ExG.of ?_
  have PF:=fun (g j:Nat) (hj:j < l.length) (x:Ex) (m:Nat) (hx:pE l g .term d j=some (.ok (x,m)))=>pE_facts wf g .term d j x m hj hx
  have PE:=fun (g j:Nat) (hj:j < l.length)=>pE_err wf g .term d j hj
  clear hb
  unfold rs ow at C
  refine sem_calls' cx (fn:=Tryz.f62) rfl rfl rfl rfl ?_
  unfold rs ow
  repeat' first|refine Ops.tag rfl ?_|(refine OpsT.go ?_;(conv=>arg 7;whnf))|refine Stp.pure rfl ?_|refine PutK.mk' rfl ?_|refine Ops.nil ?_|((with_reducible refine Side.id ?_);first|refine Side.auto ?_)|((with_reducible refine SemWp.id ?_);first|refine sem_seq ?_|refine sem_region rfl ?_|refine sem_block ?_)|((with_reducible refine qThen.id ?_);first|refine qThen.go ?_)|refine Stp.call ?_|((with_reducible refine CallWp.id ?_);first|(refine callA cx (C) ?_;(conv=>whnf)))
  clear C
  refine sem_loop cx (ι:=XI) (fun x=>match x with|.inl (g,e,j)=>g≤n∧j < l.length∧i≤j∧(gl acc e).length≤acc.length+(j - i)∧pE l g (.exprL e) d j=some res|.inr (c,j,L)=>(∃ d',res = .error (c,j,d'))∧j < l.length∧i≤j∧¬ c=0∧L.length≤acc.length+(j - i)+1)
   (fun x=>match x with|.inl (g,e,j)=>[(0,.sure,.ptr q 0),(1,.sure,.list (.own rt 0) 5 ((gl acc e).map encN))]|.inr (c,j,L)=>[(0,.sure,.ptr q 0),(1,.sure,.list (.own rt 0) 5 (L.map encN))])
   (fun x=>match x with|.inl (g,e,j)=>[(q,.cells [LTk l,ii j,ii d,ii 0,ii a] 56),(rt,.tok (gl acc e).length)]|.inr (c,j,L)=>[(q,.cells [LTk l,ii j,ii d,ii c,ii (tk l j).pos] 56),(rt,.tok L.length)])
   (fun x=>match x with|.inl (g,_,_)=>g+1|.inr _=>0) (.inl (n,e0,j0)) ⟨Nat.le_refl _,hj0,hij0,by omega,h⟩ (by repeat' first|exact Sub.nil _|refine Sub.auto ?_) Subp.tk ?_
  clear h hl0 zl0 hj0 hij0
  rintro (⟨g,e,j⟩|⟨c,j,L⟩) hJ
  rotate_left
  ·dsimp only at hJ ⊢
   obtain ⟨⟨d',rfl⟩,hj,hij,c0,hL⟩:=hJ
   clear IH PF PE
   unfold rs at *
   repeat' first|refine Ops.tag rfl ?_|(with_reducible first|refine OpsT.andF ?_|refine OpsT.no ?_)|(refine OpsT.go ?_;(conv=>arg 7;whnf))|(with_reducible first|refine Stp.andF ?_)|((with_reducible refine Stp.isEq ?_);first|refine Stp.eqF ?_)|refine Stp.pure rfl ?_|refine PutK.mk' rfl ?_|refine Ops.nil ?_|((with_reducible refine Look.id ?_);refine Look.at ?_;try (conv=>arg 7;whnf))|((with_reducible refine Side.id ?_);first|refine Side.auto ?_)|((with_reducible refine Br.id ?_);first|(with_reducible first|refine br_false rfl ?_))|((with_reducible refine SemWp.id ?_);first|refine sem_seq ?_|refine sem_region rfl ?_|refine sem_cond rfl ?_|refine sem_exit ?_|refine sem_ret ?_)|((with_reducible refine qThen.id ?_);first|refine qThen.go ?_)|refine Stp.valS ?_|refine Stp.look ?_|((with_reducible refine BodyR.id ?_);first|refine BodyR.ret ?_)|((with_reducible refine ResG.id ?_);first|refine ResG.tmp rfl ?_|refine ResG.nil ?_)
   refine Fin.mk ⟨L,hL,WeakerE.refl _,Subp.tk⟩
  dsimp only at hJ ⊢
  obtain ⟨hgn,hj,hij,hl,h⟩:=hJ
  have ml:((gl acc e).map encN).length=(gl acc e).length:=by simp
  cases g with
  |zero=>cases h
  |succ g=>
  simp only [pE] at h
  cases b0:isT l j (tc 43) with
  |true=>
   have b1:isT l j (tc 45)=false:=isT_two b0 (by decide +kernel)
   have hk:addK l j=some 4:=by simp [addK,b0]
   rw [hk] at h
   have hj1:=wf.more j hj (isT_kind b0)
   have I0:=ris_ok q l j d a (tc 43) hj;rw [b0] at I0;have I1:=ris_ok q l j d a (tc 45) hj;rw [b1] at I1
   cases hb2:pE l g .term d (j+1) with
   |none=>rw [hb2] at h;cases h
   |some r2=>
   rw [hb2] at h
   have C2:=IH g (by omega) d (j+1) r2 hj1 h0 h1 hb2 q rt a (gl acc e) hq (by omega)
   cases r2 with
   |error x=>
    obtain ⟨c,j2,d'⟩:=x
    cases h
    obtain ⟨hj2,hij2,hc⟩:=PE g (j+1) hj1 _ _ _ hb2
    have TW:=fun (x:List ND) (hx:x.length≤20000)=>two_spec rt x (((gl acc e).length:Int) - 1) 4 (by omega)
    simp only [ExG] at C2
    clear IH PF PE hb2
    unfold rs ow at *
    repeat' first|refine Ops.tag rfl ?_|((with_reducible first|refine OpsT.yes ?_);(conv=>arg 7;whnf))|(with_reducible first|refine OpsT.no' ?_)|(refine OpsT.go ?_;(conv=>arg 7;whnf))|(with_reducible first|refine Stp.orT ?_|refine Stp.andT ?_)|((with_reducible refine Stp.isSum ?_);refine Stp.sum ?_)|((with_reducible refine Stp.isEq ?_);first|refine Stp.eqT ?_)|refine Stp.pure rfl ?_|((with_reducible refine PutK.isSet ?_);refine PutK.st ?_)|refine PutK.mk' rfl ?_|refine Ops.nil ?_|((with_reducible refine Look.id ?_);refine Look.at ?_;try (conv=>arg 7;whnf))|((with_reducible refine Side.id ?_);first|refine Side.auto ?_)|((with_reducible refine Br.id ?_);first|(with_reducible first|refine br_true rfl ?_|refine br_false rfl ?_))|((with_reducible refine SemWp.id ?_);first|refine sem_seq ?_|refine sem_region rfl ?_|refine sem_cond rfl ?_|refine sem_block ?_|refine sem_skip ?_)|((with_reducible refine qThen.id ?_);first|refine qThen.go ?_)|((with_reducible refine hinBlock.id ?_);first|refine hinBlock.go ?_)|((with_reducible refine hround.id ?_);first|refine hround.go ?_)|refine Stp.valS ?_|refine Stp.look ?_|refine Stp.call ?_|refine Stp.eff ?_|((with_reducible refine CallWp.id ?_);first|(refine callA cx (I0) ?_;(conv=>whnf))|(refine callA cx (I1) ?_;(conv=>whnf))|(refine callX cx (C2) (fun g hg=>?_);(conv=>whnf))|(refine callA cx (TW g (by omega)) ?_;(conv=>whnf)))|((with_reducible refine Upd.id ?_);first|(refine Upd.lit rfl ?_;(conv=>whnf)))|rw [ml]
    refine Fin.mk ⟨.inr (c,j2,g ++ [⟨4,0,noS,((gl acc e).length:Int) - 1,(g.length:Int) - 1⟩]),⟨⟨_,rfl⟩,hj2,by omega,by omega,by rw [List.length_append,List.length_singleton];omega⟩,by show 0 < _+1+1;omega,by repeat' first|exact Sub.nil _|refine Sub.auto ?_ rfl (by first|rfl|assumption|omega|exact (congrArg (HV.list (Tok.own rt 0) 5) (map_snoc _ _)).symm),Subp.tk⟩
   |ok x=>
    obtain ⟨e2,j2⟩:=x
    have h:pE l g (.exprL (.bin 4 e e2)) d j2=some res:=h
    obtain ⟨hj2,hij2,hl2⟩:=PF g (j+1) hj1 _ _ hb2
    simp only [Lv.base] at hl2
    have zl:=gl_len (gl acc e) e2
    have TW:=two_spec rt (gl (gl acc e) e2) (((gl acc e).length:Int) - 1) 4 (by omega)
    have zb:(gl acc (.bin 4 e e2)).length=(gl (gl acc e) e2).length+1:=by rw [gl_bin,List.length_append,List.length_singleton]
    rw [←gl_bin] at TW
    have C2:To 70 [.ptr q 0,ow rt (gl acc e)] [(q,rs l (j+1) d 0 a),(rt,.tok (gl acc e).length)] (.ret (ow rt (gl (gl acc e) e2))) [(q,rs l j2 d 0 a),(rt,.tok (gl (gl acc e) e2).length)]:=C2
    clear IH PF PE hb2
    unfold rs ow at *
    repeat' first|refine Ops.tag rfl ?_|((with_reducible first|refine OpsT.yes ?_);(conv=>arg 7;whnf))|(with_reducible first|refine OpsT.no' ?_)|(refine OpsT.go ?_;(conv=>arg 7;whnf))|(with_reducible first|refine Stp.orT ?_|refine Stp.andT ?_)|((with_reducible refine Stp.isSum ?_);refine Stp.sum ?_)|((with_reducible refine Stp.isEq ?_);first|refine Stp.eqT ?_)|refine Stp.pure rfl ?_|((with_reducible refine PutK.isSet ?_);refine PutK.st ?_)|refine PutK.mk' rfl ?_|refine Ops.nil ?_|((with_reducible refine Look.id ?_);refine Look.at ?_;try (conv=>arg 7;whnf))|((with_reducible refine Side.id ?_);first|refine Side.auto ?_)|((with_reducible refine Br.id ?_);first|(with_reducible first|refine br_true rfl ?_|refine br_false rfl ?_))|((with_reducible refine SemWp.id ?_);first|refine sem_seq ?_|refine sem_region rfl ?_|refine sem_cond rfl ?_|refine sem_block ?_|refine sem_skip ?_)|((with_reducible refine qThen.id ?_);first|refine qThen.go ?_)|((with_reducible refine hinBlock.id ?_);first|refine hinBlock.go ?_)|((with_reducible refine hround.id ?_);first|refine hround.go ?_)|refine Stp.valS ?_|refine Stp.look ?_|refine Stp.call ?_|refine Stp.eff ?_|((with_reducible refine CallWp.id ?_);first|(refine callA cx (I0) ?_;(conv=>whnf))|(refine callA cx (I1) ?_;(conv=>whnf))|(refine callA cx (C2) ?_;(conv=>whnf))|(refine callA cx (TW) ?_;(conv=>whnf)))|((with_reducible refine Upd.id ?_);first|(refine Upd.lit rfl ?_;(conv=>whnf)))|rw [ml]
    refine Fin.mk ⟨.inl (g,.bin 4 e e2,j2),⟨by omega,hj2,by omega,by omega,h⟩,by show g+1 < g+1+1;omega,by repeat' first|exact Sub.nil _|refine Sub.auto ?_,Subp.tk⟩
  |false=>
  cases b1:isT l j (tc 45) with
  |true=>
   have hk:addK l j=some 5:=by simp [addK,b0,b1]
   rw [hk] at h
   have hj1:=wf.more j hj (isT_kind b1)
   have I0:=ris_ok q l j d a (tc 43) hj;rw [b0] at I0;have I1:=ris_ok q l j d a (tc 45) hj;rw [b1] at I1
   cases hb2:pE l g .term d (j+1) with
   |none=>rw [hb2] at h;cases h
   |some r2=>
   rw [hb2] at h
   have C2:=IH g (by omega) d (j+1) r2 hj1 h0 h1 hb2 q rt a (gl acc e) hq (by omega)
   cases r2 with
   |error x=>
    obtain ⟨c,j2,d'⟩:=x
    cases h
    obtain ⟨hj2,hij2,hc⟩:=PE g (j+1) hj1 _ _ _ hb2
    have TW:=fun (x:List ND) (hx:x.length≤20000)=>two_spec rt x (((gl acc e).length:Int) - 1) 5 (by omega)
    simp only [ExG] at C2
    clear IH PF PE hb2
    unfold rs ow at *
    repeat' first|refine Ops.tag rfl ?_|((with_reducible first|refine OpsT.yes ?_|refine OpsT.yes' ?_);(conv=>arg 7;whnf))|(refine OpsT.go ?_;(conv=>arg 7;whnf))|(with_reducible first|refine Stp.orF ?_|refine Stp.andT ?_)|((with_reducible refine Stp.isSum ?_);refine Stp.sum ?_)|((with_reducible refine Stp.isEq ?_);first|refine Stp.eqT ?_)|refine Stp.pure rfl ?_|((with_reducible refine PutK.isSet ?_);refine PutK.st ?_)|refine PutK.mk' rfl ?_|refine Ops.nil ?_|((with_reducible refine Look.id ?_);refine Look.at ?_;try (conv=>arg 7;whnf))|((with_reducible refine Side.id ?_);first|refine Side.auto ?_)|((with_reducible refine Br.id ?_);first|(with_reducible first|refine br_true rfl ?_))|((with_reducible refine SemWp.id ?_);first|refine sem_seq ?_|refine sem_region rfl ?_|refine sem_cond rfl ?_|refine sem_block ?_|refine sem_skip ?_)|((with_reducible refine qThen.id ?_);first|refine qThen.go ?_)|((with_reducible refine hinBlock.id ?_);first|refine hinBlock.go ?_)|((with_reducible refine hround.id ?_);first|refine hround.go ?_)|refine Stp.valS ?_|refine Stp.look ?_|refine Stp.call ?_|refine Stp.eff ?_|((with_reducible refine CallWp.id ?_);first|(refine callA cx (I0) ?_;(conv=>whnf))|(refine callA cx (I1) ?_;(conv=>whnf))|(refine callX cx (C2) (fun g hg=>?_);(conv=>whnf))|(refine callA cx (TW g (by omega)) ?_;(conv=>whnf)))|((with_reducible refine Upd.id ?_);first|(refine Upd.lit rfl ?_;(conv=>whnf)))|rw [ml]
    refine Fin.mk ⟨.inr (c,j2,g ++ [⟨5,0,noS,((gl acc e).length:Int) - 1,(g.length:Int) - 1⟩]),⟨⟨_,rfl⟩,hj2,by omega,by omega,by rw [List.length_append,List.length_singleton];omega⟩,by show 0 < _+1+1;omega,by repeat' first|exact Sub.nil _|refine Sub.auto ?_ rfl (by first|rfl|assumption|omega|exact (congrArg (HV.list (Tok.own rt 0) 5) (map_snoc _ _)).symm),Subp.tk⟩
   |ok x=>
    obtain ⟨e2,j2⟩:=x
    have h:pE l g (.exprL (.bin 5 e e2)) d j2=some res:=h
    obtain ⟨hj2,hij2,hl2⟩:=PF g (j+1) hj1 _ _ hb2
    simp only [Lv.base] at hl2
    have zl:=gl_len (gl acc e) e2
    have TW:=two_spec rt (gl (gl acc e) e2) (((gl acc e).length:Int) - 1) 5 (by omega)
    have zb:(gl acc (.bin 5 e e2)).length=(gl (gl acc e) e2).length+1:=by rw [gl_bin,List.length_append,List.length_singleton]
    rw [←gl_bin] at TW
    have C2:To 70 [.ptr q 0,ow rt (gl acc e)] [(q,rs l (j+1) d 0 a),(rt,.tok (gl acc e).length)] (.ret (ow rt (gl (gl acc e) e2))) [(q,rs l j2 d 0 a),(rt,.tok (gl (gl acc e) e2).length)]:=C2
    clear IH PF PE hb2
    unfold rs ow at *
    repeat' first|refine Ops.tag rfl ?_|((with_reducible first|refine OpsT.yes ?_|refine OpsT.yes' ?_);(conv=>arg 7;whnf))|(refine OpsT.go ?_;(conv=>arg 7;whnf))|(with_reducible first|refine Stp.orF ?_|refine Stp.andT ?_)|((with_reducible refine Stp.isSum ?_);refine Stp.sum ?_)|((with_reducible refine Stp.isEq ?_);first|refine Stp.eqT ?_)|refine Stp.pure rfl ?_|((with_reducible refine PutK.isSet ?_);refine PutK.st ?_)|refine PutK.mk' rfl ?_|refine Ops.nil ?_|((with_reducible refine Look.id ?_);refine Look.at ?_;try (conv=>arg 7;whnf))|((with_reducible refine Side.id ?_);first|refine Side.auto ?_)|((with_reducible refine Br.id ?_);first|(with_reducible first|refine br_true rfl ?_))|((with_reducible refine SemWp.id ?_);first|refine sem_seq ?_|refine sem_region rfl ?_|refine sem_cond rfl ?_|refine sem_block ?_|refine sem_skip ?_)|((with_reducible refine qThen.id ?_);first|refine qThen.go ?_)|((with_reducible refine hinBlock.id ?_);first|refine hinBlock.go ?_)|((with_reducible refine hround.id ?_);first|refine hround.go ?_)|refine Stp.valS ?_|refine Stp.look ?_|refine Stp.call ?_|refine Stp.eff ?_|((with_reducible refine CallWp.id ?_);first|(refine callA cx (I0) ?_;(conv=>whnf))|(refine callA cx (I1) ?_;(conv=>whnf))|(refine callA cx (C2) ?_;(conv=>whnf))|(refine callA cx (TW) ?_;(conv=>whnf)))|((with_reducible refine Upd.id ?_);first|(refine Upd.lit rfl ?_;(conv=>whnf)))|rw [ml]
    refine Fin.mk ⟨.inl (g,.bin 5 e e2,j2),⟨by omega,hj2,by omega,by omega,h⟩,by show g+1 < g+1+1;omega,by repeat' first|exact Sub.nil _|refine Sub.auto ?_,Subp.tk⟩
  |false=>
  have hk:addK l j=none:=by simp [addK,b0,b1]
  rw [hk] at h
  cases h
  have I0:=ris_ok q l j d a (tc 43) hj;rw [b0] at I0;have I1:=ris_ok q l j d a (tc 45) hj;rw [b1] at I1
  clear IH PF PE
  unfold rs at *
  repeat' first|refine Ops.tag rfl ?_|((with_reducible first|refine OpsT.yes ?_|refine OpsT.yes' ?_);(conv=>arg 7;whnf))|(refine OpsT.go ?_;(conv=>arg 7;whnf))|(with_reducible first|refine Stp.orF ?_|refine Stp.andT ?_)|((with_reducible refine Stp.isEq ?_);first|refine Stp.eqT ?_)|refine Stp.pure rfl ?_|refine PutK.mk' rfl ?_|refine Ops.nil ?_|((with_reducible refine Look.id ?_);refine Look.at ?_;try (conv=>arg 7;whnf))|((with_reducible refine Side.id ?_);first|refine Side.auto ?_)|((with_reducible refine Br.id ?_);first|(with_reducible first|refine br_false rfl ?_))|((with_reducible refine SemWp.id ?_);first|refine sem_seq ?_|refine sem_region rfl ?_|refine sem_cond rfl ?_|refine sem_exit ?_|refine sem_ret ?_)|((with_reducible refine qThen.id ?_);first|refine qThen.go ?_)|refine Stp.valS ?_|refine Stp.look ?_|refine Stp.call ?_|((with_reducible refine CallWp.id ?_);first|(refine callA cx (I0) ?_;(conv=>whnf))|(refine callA cx (I1) ?_;(conv=>whnf)))|((with_reducible refine BodyR.id ?_);first|refine BodyR.ret ?_)|((with_reducible refine ResG.id ?_);first|refine ResG.tmp rfl ?_|refine ResG.nil ?_)
  refine Fin.mk ⟨WeakerE.refl _,Subp.tk⟩
end Go.Proofs.Hk

set_option linter.unusedSimpArgs false
set_option linter.unusedVariables false
set_option maxRecDepth 4000
namespace Go.Proofs.Hk
open Go Go.Proofs
set_option maxHeartbeats 4000000 in
theorem rterm_lvl (l:List Tk) (wf:WfT l) (n:Nat) (IH:ExA l n 76 .unary) (i:Nat) (d:Int) (res) (hi:i < l.length) (h0:0≤d) (h1:d≤50) (h:(bindR (pE l n .unary d i) fun e j=>pE l n (.termL e) d j)=some res) (q rt:Nat) (a:Int) (acc:List ND) (hq:q≠rt) (ha:acc.length≤i):ExG l q rt acc i d a 70 res:=by
 have wl:=wf.len
 have hq':rt≠q:=Ne.symm hq
 cases hb:pE l n .unary d i with
 |none=>rw [hb] at h;cases h
 |some r1=>
 rw [hb] at h
 have C:=IH n (Nat.le_refl _) d i r1 hi h0 h1 hb q rt a acc hq ha
 cases r1 with
 |error x=>
  obtain ⟨c,j,d'⟩:=x
  cases h
  obtain ⟨hj,hij,hc⟩:=pE_err wf _ _ _ _ hi _ _ _ hb
  have c0:¬ c=0:=by omega
  refine ExG.of ?_
  simp only [ExG] at C
  clear IH hb
  unfold rs ow at *
  refine sem_calls' cx (fn:=Tryz.f70) rfl rfl rfl rfl ?_
  repeat' first|refine Ops.tag rfl ?_|(refine OpsT.go ?_;(conv=>arg 7;whnf))|refine Stp.pure rfl ?_|refine PutK.mk' rfl ?_|refine Ops.nil ?_|((with_reducible refine Side.id ?_);first|refine Side.auto ?_)|((with_reducible refine SemWp.id ?_);first|refine sem_seq ?_|refine sem_region rfl ?_|refine sem_block ?_)|((with_reducible refine qThen.id ?_);first|refine qThen.go ?_)|refine Stp.call ?_|((with_reducible refine CallWp.id ?_);first|(refine callX cx (C) (fun g hg=>?_);(conv=>whnf)))
  refine sem_loop cx (ι:=Unit) (fun _=>True) (fun _=>[(0,.sure,.ptr q 0),(1,.sure,.list (.own rt 0) 5 (g.map encN))]) (fun _=>[(q,.cells [LTk l,ii j,ii d,ii c,ii (tk l j).pos] 56),(rt,.tok g.length)]) (fun _=>0) () trivial (by repeat' first|exact Sub.nil _|refine Sub.auto ?_) Subp.tk ?_
  rintro _ _
  repeat' first|refine Ops.tag rfl ?_|(with_reducible first|refine OpsT.andF ?_|refine OpsT.no ?_)|(refine OpsT.go ?_;(conv=>arg 7;whnf))|(with_reducible first|refine Stp.andF ?_)|((with_reducible refine Stp.isEq ?_);first|refine Stp.eqF ?_)|refine Stp.pure rfl ?_|refine PutK.mk' rfl ?_|refine Ops.nil ?_|((with_reducible refine Look.id ?_);refine Look.at ?_;try (conv=>arg 7;whnf))|((with_reducible refine Side.id ?_);first|refine Side.auto ?_)|((with_reducible refine Br.id ?_);first|(with_reducible first|refine br_false rfl ?_))|((with_reducible refine SemWp.id ?_);first|refine sem_seq ?_|refine sem_region rfl ?_|refine sem_cond rfl ?_|refine sem_exit ?_|refine sem_ret ?_)|((with_reducible refine qThen.id ?_);first|refine qThen.go ?_)|refine Stp.valS ?_|refine Stp.look ?_|((with_reducible refine BodyR.id ?_);first|refine BodyR.ret ?_)|((with_reducible refine ResG.id ?_);first|refine ResG.tmp rfl ?_|refine ResG.nil ?_)
  refine Fin.mk ⟨g,hg,WeakerE.refl _,Subp.tk⟩
 |ok x=>
  obtain ⟨e0,j0⟩:=x
  have h:pE l n (.termL e0) d j0=some res:=h
  obtain ⟨hj0,hij0,hl0⟩:=pE_facts wf _ _ _ _ _ _ hi hb
  simp only [Lv.base] at hl0
  have zl0:=gl_len acc e0
  have C:To 76 [.ptr q 0,ow rt acc] [(q,rs l i d 0 a),(rt,.tok acc.length)] (.ret (ow rt (gl acc e0))) [(q,rs l j0 d 0 a),(rt,.tok (gl acc e0).length)]:=C
  refine ExG.of ?_
  have PF:=fun (g j:Nat) (hj:j < l.length) (x:Ex) (m:Nat) (hx:pE l g .unary d j=some (.ok (x,m)))=>pE_facts wf g .unary d j x m hj hx
  have PE:=fun (g j:Nat) (hj:j < l.length)=>pE_err wf g .unary d j hj
  clear hb
  unfold rs ow at C
  refine sem_calls' cx (fn:=Tryz.f70) rfl rfl rfl rfl ?_
  unfold rs ow
  repeat' first|refine Ops.tag rfl ?_|(refine OpsT.go ?_;(conv=>arg 7;whnf))|refine Stp.pure rfl ?_|refine PutK.mk' rfl ?_|refine Ops.nil ?_|((with_reducible refine Side.id ?_);first|refine Side.auto ?_)|((with_reducible refine SemWp.id ?_);first|refine sem_seq ?_|refine sem_region rfl ?_|refine sem_block ?_)|((with_reducible refine qThen.id ?_);first|refine qThen.go ?_)|refine Stp.call ?_|((with_reducible refine CallWp.id ?_);first|(refine callA cx (C) ?_;(conv=>whnf)))
  clear C
  refine sem_loop cx (ι:=XI) (fun x=>match x with|.inl (g,e,j)=>g≤n∧j < l.length∧i≤j∧(gl acc e).length≤acc.length+(j - i)∧pE l g (.termL e) d j=some res|.inr (c,j,L)=>(∃ d',res = .error (c,j,d'))∧j < l.length∧i≤j∧¬ c=0∧L.length≤acc.length+(j - i)+1)
   (fun x=>match x with|.inl (g,e,j)=>[(0,.sure,.ptr q 0),(1,.sure,.list (.own rt 0) 5 ((gl acc e).map encN))]|.inr (c,j,L)=>[(0,.sure,.ptr q 0),(1,.sure,.list (.own rt 0) 5 (L.map encN))])
   (fun x=>match x with|.inl (g,e,j)=>[(q,.cells [LTk l,ii j,ii d,ii 0,ii a] 56),(rt,.tok (gl acc e).length)]|.inr (c,j,L)=>[(q,.cells [LTk l,ii j,ii d,ii c,ii (tk l j).pos] 56),(rt,.tok L.length)])
   (fun x=>match x with|.inl (g,_,_)=>g+1|.inr _=>0) (.inl (n,e0,j0)) ⟨Nat.le_refl _,hj0,hij0,by omega,h⟩ (by repeat' first|exact Sub.nil _|refine Sub.auto ?_) Subp.tk ?_
  clear h hl0 zl0 hj0 hij0
  rintro (⟨g,e,j⟩|⟨c,j,L⟩) hJ
  rotate_left
  ·dsimp only at hJ ⊢
   obtain ⟨⟨d',rfl⟩,hj,hij,c0,hL⟩:=hJ
   clear IH PF PE
   unfold rs at *
   repeat' first|refine Ops.tag rfl ?_|(with_reducible first|refine OpsT.andF ?_|refine OpsT.no ?_)|(refine OpsT.go ?_;(conv=>arg 7;whnf))|(with_reducible first|refine Stp.andF ?_)|((with_reducible refine Stp.isEq ?_);first|refine Stp.eqF ?_)|refine Stp.pure rfl ?_|refine PutK.mk' rfl ?_|refine Ops.nil ?_|((with_reducible refine Look.id ?_);refine Look.at ?_;try (conv=>arg 7;whnf))|((with_reducible refine Side.id ?_);first|refine Side.auto ?_)|((with_reducible refine Br.id ?_);first|(with_reducible first|refine br_false rfl ?_))|((with_reducible refine SemWp.id ?_);first|refine sem_seq ?_|refine sem_region rfl ?_|refine sem_cond rfl ?_|refine sem_exit ?_|refine sem_ret ?_)|((with_reducible refine qThen.id ?_);first|refine qThen.go ?_)|refine Stp.valS ?_|refine Stp.look ?_|((with_reducible refine BodyR.id ?_);first|refine BodyR.ret ?_)|((with_reducible refine ResG.id ?_);first|refine ResG.tmp rfl ?_|refine ResG.nil ?_)
   refine Fin.mk ⟨L,hL,WeakerE.refl _,Subp.tk⟩
  dsimp only at hJ ⊢
  obtain ⟨hgn,hj,hij,hl,h⟩:=hJ
  have ml:((gl acc e).map encN).length=(gl acc e).length:=by simp
  cases g with
  |zero=>cases h
  |succ g=>
  simp only [pE] at h
  cases b0:isT l j (tc 42) with
  |true=>
   have b1:isT l j (tc 47)=false:=isT_two b0 (by decide +kernel)
   have b2:isT l j (tc 37)=false:=isT_two b0 (by decide +kernel)
   have hk:mulK l j=some 6:=by simp [mulK,b0]
   rw [hk] at h
   have hj1:=wf.more j hj (isT_kind b0)
   have I0:=ris_ok q l j d a (tc 42) hj;rw [b0] at I0;have I1:=ris_ok q l j d a (tc 47) hj;rw [b1] at I1;have I2:=ris_ok q l j d a (tc 37) hj;rw [b2] at I2
   cases hb2:pE l g .unary d (j+1) with
   |none=>rw [hb2] at h;cases h
   |some r2=>
   rw [hb2] at h
   have C2:=IH g (by omega) d (j+1) r2 hj1 h0 h1 hb2 q rt a (gl acc e) hq (by omega)
   cases r2 with
   |error x=>
    obtain ⟨c,j2,d'⟩:=x
    cases h
    obtain ⟨hj2,hij2,hc⟩:=PE g (j+1) hj1 _ _ _ hb2
    have TW:=fun (x:List ND) (hx:x.length≤20000)=>two_spec rt x (((gl acc e).length:Int) - 1) 6 (by omega)
    simp only [ExG] at C2
    clear IH PF PE hb2
    unfold rs ow at *
    repeat' first|refine Ops.tag rfl ?_|((with_reducible first|refine OpsT.yes ?_);(conv=>arg 7;whnf))|(with_reducible first|refine OpsT.no' ?_)|(refine OpsT.go ?_;(conv=>arg 7;whnf))|(with_reducible first|refine Stp.orT ?_|refine Stp.andT ?_)|((with_reducible refine Stp.isSum ?_);refine Stp.sum ?_)|((with_reducible refine Stp.isEq ?_);first|refine Stp.eqT ?_)|refine Stp.pure rfl ?_|((with_reducible refine PutK.isSet ?_);refine PutK.st ?_)|refine PutK.mk' rfl ?_|refine Ops.nil ?_|((with_reducible refine Look.id ?_);refine Look.at ?_;try (conv=>arg 7;whnf))|((with_reducible refine Side.id ?_);first|refine Side.auto ?_)|((with_reducible refine Br.id ?_);first|(with_reducible first|refine br_true rfl ?_|refine br_false rfl ?_))|((with_reducible refine SemWp.id ?_);first|refine sem_seq ?_|refine sem_region rfl ?_|refine sem_cond rfl ?_|refine sem_block ?_|refine sem_skip ?_)|((with_reducible refine qThen.id ?_);first|refine qThen.go ?_)|((with_reducible refine hinBlock.id ?_);first|refine hinBlock.go ?_)|((with_reducible refine hround.id ?_);first|refine hround.go ?_)|refine Stp.valS ?_|refine Stp.look ?_|refine Stp.call ?_|refine Stp.eff ?_|((with_reducible refine CallWp.id ?_);first|(refine callA cx (I0) ?_;(conv=>whnf))|(refine callA cx (I1) ?_;(conv=>whnf))|(refine callA cx (I2) ?_;(conv=>whnf))|(refine callX cx (C2) (fun g hg=>?_);(conv=>whnf))|(refine callA cx (TW g (by omega)) ?_;(conv=>whnf)))|((with_reducible refine Upd.id ?_);first|(refine Upd.lit rfl ?_;(conv=>whnf)))|rw [ml]
    refine Fin.mk ⟨.inr (c,j2,g ++ [⟨6,0,noS,((gl acc e).length:Int) - 1,(g.length:Int) - 1⟩]),⟨⟨_,rfl⟩,hj2,by omega,by omega,by rw [List.length_append,List.length_singleton];omega⟩,by show 0 < _+1+1;omega,by repeat' first|exact Sub.nil _|refine Sub.auto ?_ rfl (by first|rfl|assumption|omega|exact (congrArg (HV.list (Tok.own rt 0) 5) (map_snoc _ _)).symm),Subp.tk⟩
   |ok x=>
    obtain ⟨e2,j2⟩:=x
    have h:pE l g (.termL (.bin 6 e e2)) d j2=some res:=h
    obtain ⟨hj2,hij2,hl2⟩:=PF g (j+1) hj1 _ _ hb2
    simp only [Lv.base] at hl2
    have zl:=gl_len (gl acc e) e2
    have TW:=two_spec rt (gl (gl acc e) e2) (((gl acc e).length:Int) - 1) 6 (by omega)
    have zb:(gl acc (.bin 6 e e2)).length=(gl (gl acc e) e2).length+1:=by rw [gl_bin,List.length_append,List.length_singleton]
    rw [←gl_bin] at TW
    have C2:To 76 [.ptr q 0,ow rt (gl acc e)] [(q,rs l (j+1) d 0 a),(rt,.tok (gl acc e).length)] (.ret (ow rt (gl (gl acc e) e2))) [(q,rs l j2 d 0 a),(rt,.tok (gl (gl acc e) e2).length)]:=C2
    clear IH PF PE hb2
    unfold rs ow at *
    repeat' first|refine Ops.tag rfl ?_|((with_reducible first|refine OpsT.yes ?_);(conv=>arg 7;whnf))|(with_reducible first|refine OpsT.no' ?_)|(refine OpsT.go ?_;(conv=>arg 7;whnf))|(with_reducible first|refine Stp.orT ?_|refine Stp.andT ?_)|((with_reducible refine Stp.isSum ?_);refine Stp.sum ?_)|((with_reducible refine Stp.isEq ?_);first|refine Stp.eqT ?_)|refine Stp.pure rfl ?_|((with_reducible refine PutK.isSet ?_);refine PutK.st ?_)|refine PutK.mk' rfl ?_|refine Ops.nil ?_|((with_reducible refine Look.id ?_);refine Look.at ?_;try (conv=>arg 7;whnf))|((with_reducible refine Side.id ?_);first|refine Side.auto ?_)|((with_reducible refine Br.id ?_);first|(with_reducible first|refine br_true rfl ?_|refine br_false rfl ?_))|((with_reducible refine SemWp.id ?_);first|refine sem_seq ?_|refine sem_region rfl ?_|refine sem_cond rfl ?_|refine sem_block ?_|refine sem_skip ?_)|((with_reducible refine qThen.id ?_);first|refine qThen.go ?_)|((with_reducible refine hinBlock.id ?_);first|refine hinBlock.go ?_)|((with_reducible refine hround.id ?_);first|refine hround.go ?_)|refine Stp.valS ?_|refine Stp.look ?_|refine Stp.call ?_|refine Stp.eff ?_|((with_reducible refine CallWp.id ?_);first|(refine callA cx (I0) ?_;(conv=>whnf))|(refine callA cx (I1) ?_;(conv=>whnf))|(refine callA cx (I2) ?_;(conv=>whnf))|(refine callA cx (C2) ?_;(conv=>whnf))|(refine callA cx (TW) ?_;(conv=>whnf)))|((with_reducible refine Upd.id ?_);first|(refine Upd.lit rfl ?_;(conv=>whnf)))|rw [ml]
    refine Fin.mk ⟨.inl (g,.bin 6 e e2,j2),⟨by omega,hj2,by omega,by omega,h⟩,by show g+1 < g+1+1;omega,by repeat' first|exact Sub.nil _|refine Sub.auto ?_,Subp.tk⟩
  |false=>
  cases b1:isT l j (tc 47) with
  |true=>
   have b2:isT l j (tc 37)=false:=isT_two b1 (by decide +kernel)
   have hk:mulK l j=some 7:=by simp [mulK,b0,b1]
   rw [hk] at h
   have hj1:=wf.more j hj (isT_kind b1)
   have I0:=ris_ok q l j d a (tc 42) hj;rw [b0] at I0;have I1:=ris_ok q l j d a (tc 47) hj;rw [b1] at I1;have I2:=ris_ok q l j d a (tc 37) hj;rw [b2] at I2
   cases hb2:pE l g .unary d (j+1) with
   |none=>rw [hb2] at h;cases h
   |some r2=>
   rw [hb2] at h
   have C2:=IH g (by omega) d (j+1) r2 hj1 h0 h1 hb2 q rt a (gl acc e) hq (by omega)
   cases r2 with
   |error x=>
    obtain ⟨c,j2,d'⟩:=x
    cases h
    obtain ⟨hj2,hij2,hc⟩:=PE g (j+1) hj1 _ _ _ hb2
    have TW:=fun (x:List ND) (hx:x.length≤20000)=>two_spec rt x (((gl acc e).length:Int) - 1) 7 (by omega)
    simp only [ExG] at C2
    clear IH PF PE hb2
    unfold rs ow at *
    repeat' first|refine Ops.tag rfl ?_|((with_reducible first|refine OpsT.yes ?_|refine OpsT.yes' ?_);(conv=>arg 7;whnf))|(with_reducible first|refine OpsT.no' ?_)|(refine OpsT.go ?_;(conv=>arg 7;whnf))|(with_reducible first|refine Stp.orF ?_|refine Stp.orT ?_|refine Stp.andT ?_)|((with_reducible refine Stp.isSum ?_);refine Stp.sum ?_)|((with_reducible refine Stp.isEq ?_);first|refine Stp.eqT ?_)|refine Stp.pure rfl ?_|((with_reducible refine PutK.isSet ?_);refine PutK.st ?_)|refine PutK.mk' rfl ?_|refine Ops.nil ?_|((with_reducible refine Look.id ?_);refine Look.at ?_;try (conv=>arg 7;whnf))|((with_reducible refine Side.id ?_);first|refine Side.auto ?_)|((with_reducible refine Br.id ?_);first|(with_reducible first|refine br_true rfl ?_|refine br_false rfl ?_))|((with_reducible refine SemWp.id ?_);first|refine sem_seq ?_|refine sem_region rfl ?_|refine sem_cond rfl ?_|refine sem_block ?_|refine sem_skip ?_)|((with_reducible refine qThen.id ?_);first|refine qThen.go ?_)|((with_reducible refine hinBlock.id ?_);first|refine hinBlock.go ?_)|((with_reducible refine hround.id ?_);first|refine hround.go ?_)|refine Stp.valS ?_|refine Stp.look ?_|refine Stp.call ?_|refine Stp.eff ?_|((with_reducible refine CallWp.id ?_);first|(refine callA cx (I0) ?_;(conv=>whnf))|(refine callA cx (I1) ?_;(conv=>whnf))|(refine callA cx (I2) ?_;(conv=>whnf))|(refine callX cx (C2) (fun g hg=>?_);(conv=>whnf))|(refine callA cx (TW g (by omega)) ?_;(conv=>whnf)))|((with_reducible refine Upd.id ?_);first|(refine Upd.lit rfl ?_;(conv=>whnf)))|rw [ml]
    refine Fin.mk ⟨.inr (c,j2,g ++ [⟨7,0,noS,((gl acc e).length:Int) - 1,(g.length:Int) - 1⟩]),⟨⟨_,rfl⟩,hj2,by omega,by omega,by rw [List.length_append,List.length_singleton];omega⟩,by show 0 < _+1+1;omega,by repeat' first|exact Sub.nil _|refine Sub.auto ?_ rfl (by first|rfl|assumption|omega|exact (congrArg (HV.list (Tok.own rt 0) 5) (map_snoc _ _)).symm),Subp.tk⟩
   |ok x=>
    obtain ⟨e2,j2⟩:=x
    have h:pE l g (.termL (.bin 7 e e2)) d j2=some res:=h
    obtain ⟨hj2,hij2,hl2⟩:=PF g (j+1) hj1 _ _ hb2
    simp only [Lv.base] at hl2
    have zl:=gl_len (gl acc e) e2
    have TW:=two_spec rt (gl (gl acc e) e2) (((gl acc e).length:Int) - 1) 7 (by omega)
    have zb:(gl acc (.bin 7 e e2)).length=(gl (gl acc e) e2).length+1:=by rw [gl_bin,List.length_append,List.length_singleton]
    rw [←gl_bin] at TW
    have C2:To 76 [.ptr q 0,ow rt (gl acc e)] [(q,rs l (j+1) d 0 a),(rt,.tok (gl acc e).length)] (.ret (ow rt (gl (gl acc e) e2))) [(q,rs l j2 d 0 a),(rt,.tok (gl (gl acc e) e2).length)]:=C2
    clear IH PF PE hb2
    unfold rs ow at *
    repeat' first|refine Ops.tag rfl ?_|((with_reducible first|refine OpsT.yes ?_|refine OpsT.yes' ?_);(conv=>arg 7;whnf))|(with_reducible first|refine OpsT.no' ?_)|(refine OpsT.go ?_;(conv=>arg 7;whnf))|(with_reducible first|refine Stp.orF ?_|refine Stp.orT ?_|refine Stp.andT ?_)|((with_reducible refine Stp.isSum ?_);refine Stp.sum ?_)|((with_reducible refine Stp.isEq ?_);first|refine Stp.eqT ?_)|refine Stp.pure rfl ?_|((with_reducible refine PutK.isSet ?_);refine PutK.st ?_)|refine PutK.mk' rfl ?_|refine Ops.nil ?_|((with_reducible refine Look.id ?_);refine Look.at ?_;try (conv=>arg 7;whnf))|((with_reducible refine Side.id ?_);first|refine Side.auto ?_)|((with_reducible refine Br.id ?_);first|(with_reducible first|refine br_true rfl ?_|refine br_false rfl ?_))|((with_reducible refine SemWp.id ?_);first|refine sem_seq ?_|refine sem_region rfl ?_|refine sem_cond rfl ?_|refine sem_block ?_|refine sem_skip ?_)|((with_reducible refine qThen.id ?_);first|refine qThen.go ?_)|((with_reducible refine hinBlock.id ?_);first|refine hinBlock.go ?_)|((with_reducible refine hround.id ?_);first|refine hround.go ?_)|refine Stp.valS ?_|refine Stp.look ?_|refine Stp.call ?_|refine Stp.eff ?_|((with_reducible refine CallWp.id ?_);first|(refine callA cx (I0) ?_;(conv=>whnf))|(refine callA cx (I1) ?_;(conv=>whnf))|(refine callA cx (I2) ?_;(conv=>whnf))|(refine callA cx (C2) ?_;(conv=>whnf))|(refine callA cx (TW) ?_;(conv=>whnf)))|((with_reducible refine Upd.id ?_);first|(refine Upd.lit rfl ?_;(conv=>whnf)))|rw [ml]
    refine Fin.mk ⟨.inl (g,.bin 7 e e2,j2),⟨by omega,hj2,by omega,by omega,h⟩,by show g+1 < g+1+1;omega,by repeat' first|exact Sub.nil _|refine Sub.auto ?_,Subp.tk⟩
  |false=>
  cases b2:isT l j (tc 37) with
  |true=>
   have hk:mulK l j=some 8:=by simp [mulK,b0,b1,b2]
   rw [hk] at h
   have hj1:=wf.more j hj (isT_kind b2)
   have I0:=ris_ok q l j d a (tc 42) hj;rw [b0] at I0;have I1:=ris_ok q l j d a (tc 47) hj;rw [b1] at I1;have I2:=ris_ok q l j d a (tc 37) hj;rw [b2] at I2
   cases hb2:pE l g .unary d (j+1) with
   |none=>rw [hb2] at h;cases h
   |some r2=>
   rw [hb2] at h
   have C2:=IH g (by omega) d (j+1) r2 hj1 h0 h1 hb2 q rt a (gl acc e) hq (by omega)
   cases r2 with
   |error x=>
    obtain ⟨c,j2,d'⟩:=x
    cases h
    obtain ⟨hj2,hij2,hc⟩:=PE g (j+1) hj1 _ _ _ hb2
    have TW:=fun (x:List ND) (hx:x.length≤20000)=>two_spec rt x (((gl acc e).length:Int) - 1) 8 (by omega)
    simp only [ExG] at C2
    clear IH PF PE hb2
    unfold rs ow at *
    repeat' first|refine Ops.tag rfl ?_|((with_reducible first|refine OpsT.yes ?_|refine OpsT.yes' ?_);(conv=>arg 7;whnf))|(refine OpsT.go ?_;(conv=>arg 7;whnf))|(with_reducible first|refine Stp.orF ?_|refine Stp.andT ?_)|((with_reducible refine Stp.isSum ?_);refine Stp.sum ?_)|((with_reducible refine Stp.isEq ?_);first|refine Stp.eqT ?_)|refine Stp.pure rfl ?_|((with_reducible refine PutK.isSet ?_);refine PutK.st ?_)|refine PutK.mk' rfl ?_|refine Ops.nil ?_|((with_reducible refine Look.id ?_);refine Look.at ?_;try (conv=>arg 7;whnf))|((with_reducible refine Side.id ?_);first|refine Side.auto ?_)|((with_reducible refine Br.id ?_);first|(with_reducible first|refine br_true rfl ?_|refine br_false rfl ?_))|((with_reducible refine SemWp.id ?_);first|refine sem_seq ?_|refine sem_region rfl ?_|refine sem_cond rfl ?_|refine sem_block ?_|refine sem_skip ?_)|((with_reducible refine qThen.id ?_);first|refine qThen.go ?_)|((with_reducible refine hinBlock.id ?_);first|refine hinBlock.go ?_)|((with_reducible refine hround.id ?_);first|refine hround.go ?_)|refine Stp.valS ?_|refine Stp.look ?_|refine Stp.call ?_|refine Stp.eff ?_|((with_reducible refine CallWp.id ?_);first|(refine callA cx (I0) ?_;(conv=>whnf))|(refine callA cx (I1) ?_;(conv=>whnf))|(refine callA cx (I2) ?_;(conv=>whnf))|(refine callX cx (C2) (fun g hg=>?_);(conv=>whnf))|(refine callA cx (TW g (by omega)) ?_;(conv=>whnf)))|((with_reducible refine Upd.id ?_);first|(refine Upd.lit rfl ?_;(conv=>whnf)))|rw [ml]
    refine Fin.mk ⟨.inr (c,j2,g ++ [⟨8,0,noS,((gl acc e).length:Int) - 1,(g.length:Int) - 1⟩]),⟨⟨_,rfl⟩,hj2,by omega,by omega,by rw [List.length_append,List.length_singleton];omega⟩,by show 0 < _+1+1;omega,by repeat' first|exact Sub.nil _|refine Sub.auto ?_ rfl (by first|rfl|assumption|omega|exact (congrArg (HV.list (Tok.own rt 0) 5) (map_snoc _ _)).symm),Subp.tk⟩
   |ok x=>
    obtain ⟨e2,j2⟩:=x
    have h:pE l g (.termL (.bin 8 e e2)) d j2=some res:=h
    obtain ⟨hj2,hij2,hl2⟩:=PF g (j+1) hj1 _ _ hb2
    simp only [Lv.base] at hl2
    have zl:=gl_len (gl acc e) e2
    have TW:=two_spec rt (gl (gl acc e) e2) (((gl acc e).length:Int) - 1) 8 (by omega)
    have zb:(gl acc (.bin 8 e e2)).length=(gl (gl acc e) e2).length+1:=by rw [gl_bin,List.length_append,List.length_singleton]
    rw [←gl_bin] at TW
    have C2:To 76 [.ptr q 0,ow rt (gl acc e)] [(q,rs l (j+1) d 0 a),(rt,.tok (gl acc e).length)] (.ret (ow rt (gl (gl acc e) e2))) [(q,rs l j2 d 0 a),(rt,.tok (gl (gl acc e) e2).length)]:=C2
    clear IH PF PE hb2
    unfold rs ow at *
    repeat' first|refine Ops.tag rfl ?_|((with_reducible first|refine OpsT.yes ?_|refine OpsT.yes' ?_);(conv=>arg 7;whnf))|(refine OpsT.go ?_;(conv=>arg 7;whnf))|(with_reducible first|refine Stp.orF ?_|refine Stp.andT ?_)|((with_reducible refine Stp.isSum ?_);refine Stp.sum ?_)|((with_reducible refine Stp.isEq ?_);first|refine Stp.eqT ?_)|refine Stp.pure rfl ?_|((with_reducible refine PutK.isSet ?_);refine PutK.st ?_)|refine PutK.mk' rfl ?_|refine Ops.nil ?_|((with_reducible refine Look.id ?_);refine Look.at ?_;try (conv=>arg 7;whnf))|((with_reducible refine Side.id ?_);first|refine Side.auto ?_)|((with_reducible refine Br.id ?_);first|(with_reducible first|refine br_true rfl ?_|refine br_false rfl ?_))|((with_reducible refine SemWp.id ?_);first|refine sem_seq ?_|refine sem_region rfl ?_|refine sem_cond rfl ?_|refine sem_block ?_|refine sem_skip ?_)|((with_reducible refine qThen.id ?_);first|refine qThen.go ?_)|((with_reducible refine hinBlock.id ?_);first|refine hinBlock.go ?_)|((with_reducible refine hround.id ?_);first|refine hround.go ?_)|refine Stp.valS ?_|refine Stp.look ?_|refine Stp.call ?_|refine Stp.eff ?_|((with_reducible refine CallWp.id ?_);first|(refine callA cx (I0) ?_;(conv=>whnf))|(refine callA cx (I1) ?_;(conv=>whnf))|(refine callA cx (I2) ?_;(conv=>whnf))|(refine callA cx (C2) ?_;(conv=>whnf))|(refine callA cx (TW) ?_;(conv=>whnf)))|((with_reducible refine Upd.id ?_);first|(refine Upd.lit rfl ?_;(conv=>whnf)))|rw [ml]
    refine Fin.mk ⟨.inl (g,.bin 8 e e2,j2),⟨by omega,hj2,by omega,by omega,h⟩,by show g+1 < g+1+1;omega,by repeat' first|exact Sub.nil _|refine Sub.auto ?_,Subp.tk⟩
  |false=>
  have hk:mulK l j=none:=by simp [mulK,b0,b1,b2]
  rw [hk] at h
  cases h
  have I0:=ris_ok q l j d a (tc 42) hj;rw [b0] at I0;have I1:=ris_ok q l j d a (tc 47) hj;rw [b1] at I1;have I2:=ris_ok q l j d a (tc 37) hj;rw [b2] at I2
  clear IH PF PE
  unfold rs at *
  repeat' first|refine Ops.tag rfl ?_|((with_reducible first|refine OpsT.yes ?_|refine OpsT.yes' ?_);(conv=>arg 7;whnf))|(refine OpsT.go ?_;(conv=>arg 7;whnf))|(with_reducible first|refine Stp.orF ?_|refine Stp.andT ?_)|((with_reducible refine Stp.isEq ?_);first|refine Stp.eqT ?_)|refine Stp.pure rfl ?_|refine PutK.mk' rfl ?_|refine Ops.nil ?_|((with_reducible refine Look.id ?_);refine Look.at ?_;try (conv=>arg 7;whnf))|((with_reducible refine Side.id ?_);first|refine Side.auto ?_)|((with_reducible refine Br.id ?_);first|(with_reducible first|refine br_false rfl ?_))|((with_reducible refine SemWp.id ?_);first|refine sem_seq ?_|refine sem_region rfl ?_|refine sem_cond rfl ?_|refine sem_exit ?_|refine sem_ret ?_)|((with_reducible refine qThen.id ?_);first|refine qThen.go ?_)|refine Stp.valS ?_|refine Stp.look ?_|refine Stp.call ?_|((with_reducible refine CallWp.id ?_);first|(refine callA cx (I0) ?_;(conv=>whnf))|(refine callA cx (I1) ?_;(conv=>whnf))|(refine callA cx (I2) ?_;(conv=>whnf)))|((with_reducible refine BodyR.id ?_);first|refine BodyR.ret ?_)|((with_reducible refine ResG.id ?_);first|refine ResG.tmp rfl ?_|refine ResG.nil ?_)
  refine Fin.mk ⟨WeakerE.refl _,Subp.tk⟩
end Go.Proofs.Hk

set_option linter.unusedSimpArgs false
set_option linter.unusedVariables false
set_option maxRecDepth 4000
namespace Go.Proofs.Hk
open Go Go.Proofs
set_option maxHeartbeats 4000000 in
theorem rcond_lvl (l:List Tk) (wf:WfT l) (n:Nat) (IH:ExA l n 63 .conj) (i:Nat) (d:Int) (res) (hi:i < l.length) (h0:0≤d) (h1:d≤50) (h:(bindR (pE l n .conj d i) fun e j=>pE l n (.condL e) d j)=some res) (q rt:Nat) (a:Int) (acc:List ND) (hq:q≠rt) (ha:acc.length≤i):ExG l q rt acc i d a 53 res:=by
 have wl:=wf.len
 have hq':rt≠q:=Ne.symm hq
 cases hb:pE l n .conj d i with
 |none=>rw [hb] at h;cases h
 |some r1=>
 rw [hb] at h
 have C:=IH n (Nat.le_refl _) d i r1 hi h0 h1 hb q rt a acc hq ha
 cases r1 with
 |error x=>
  obtain ⟨c,j,d'⟩:=x
  cases h
  obtain ⟨hj,hij,hc⟩:=pE_err wf _ _ _ _ hi _ _ _ hb
  have c0:¬ c=0:=by omega
  have T:=rtake_er q l j d c (tk l j).pos tOr hj c0
  refine ExG.of ?_
  simp only [ExG] at C
  clear IH hb
  unfold rs ow at *
  refine sem_calls' cx (fn:=Tryz.f53) rfl rfl rfl rfl ?_
  repeat' first|refine Ops.tag rfl ?_|(refine OpsT.go ?_;(conv=>arg 7;whnf))|refine Stp.pure rfl ?_|refine PutK.mk' rfl ?_|refine Ops.nil ?_|((with_reducible refine Side.id ?_);first|refine Side.auto ?_)|((with_reducible refine SemWp.id ?_);first|refine sem_seq ?_|refine sem_region rfl ?_|refine sem_block ?_)|((with_reducible refine qThen.id ?_);first|refine qThen.go ?_)|refine Stp.call ?_|((with_reducible refine CallWp.id ?_);first|(refine callX cx (C) (fun g hg=>?_);(conv=>whnf)))
  refine sem_loop cx (ι:=Unit) (fun _=>True) (fun _=>[(0,.sure,.ptr q 0),(1,.sure,.list (.own rt 0) 5 (g.map encN))]) (fun _=>[(q,.cells [LTk l,ii j,ii d,ii c,ii (tk l j).pos] 56),(rt,.tok g.length)]) (fun _=>0) () trivial (by repeat' first|exact Sub.nil _|refine Sub.auto ?_) Subp.tk ?_
  rintro _ _
  repeat' first|refine Ops.tag rfl ?_|(refine OpsT.go ?_;(conv=>arg 7;whnf))|refine Stp.pure rfl ?_|refine PutK.mk' rfl ?_|refine Ops.nil ?_|((with_reducible refine Side.id ?_);first|refine Side.auto ?_)|((with_reducible refine Br.id ?_);first|(with_reducible first|refine br_false rfl ?_))|((with_reducible refine SemWp.id ?_);first|refine sem_seq ?_|refine sem_region rfl ?_|refine sem_cond rfl ?_|refine sem_exit ?_|refine sem_ret ?_)|((with_reducible refine qThen.id ?_);first|refine qThen.go ?_)|refine Stp.call ?_|((with_reducible refine CallWp.id ?_);first|(refine callA cx (T) ?_;(conv=>whnf)))|((with_reducible refine BodyR.id ?_);first|refine BodyR.ret ?_)|((with_reducible refine ResG.id ?_);first|refine ResG.tmp rfl ?_|refine ResG.nil ?_)
  refine Fin.mk ⟨g,hg,WeakerE.refl _,Subp.tk⟩
 |ok x=>
  obtain ⟨e0,j0⟩:=x
  have h:pE l n (.condL e0) d j0=some res:=h
  obtain ⟨hj0,hij0,hl0⟩:=pE_facts wf _ _ _ _ _ _ hi hb
  simp only [Lv.base] at hl0
  have zl0:=gl_len acc e0
  have C:To 63 [.ptr q 0,ow rt acc] [(q,rs l i d 0 a),(rt,.tok acc.length)] (.ret (ow rt (gl acc e0))) [(q,rs l j0 d 0 a),(rt,.tok (gl acc e0).length)]:=C
  refine ExG.of ?_
  have PF:=fun (g j:Nat) (hj:j < l.length) (x:Ex) (m:Nat) (hx:pE l g .conj d j=some (.ok (x,m)))=>pE_facts wf g .conj d j x m hj hx
  have PE:=fun (g j:Nat) (hj:j < l.length)=>pE_err wf g .conj d j hj
  clear hb
  unfold rs ow at C
  refine sem_calls' cx (fn:=Tryz.f53) rfl rfl rfl rfl ?_
  unfold rs ow
  repeat' first|refine Ops.tag rfl ?_|(refine OpsT.go ?_;(conv=>arg 7;whnf))|refine Stp.pure rfl ?_|refine PutK.mk' rfl ?_|refine Ops.nil ?_|((with_reducible refine Side.id ?_);first|refine Side.auto ?_)|((with_reducible refine SemWp.id ?_);first|refine sem_seq ?_|refine sem_region rfl ?_|refine sem_block ?_)|((with_reducible refine qThen.id ?_);first|refine qThen.go ?_)|refine Stp.call ?_|((with_reducible refine CallWp.id ?_);first|(refine callA cx (C) ?_;(conv=>whnf)))
  clear C
  refine sem_loop cx (ι:=XI) (fun x=>match x with|.inl (g,e,j)=>g≤n∧j < l.length∧i≤j∧(gl acc e).length≤acc.length+(j - i)∧pE l g (.condL e) d j=some res|.inr (c,j,L)=>(∃ d',res = .error (c,j,d'))∧j < l.length∧i≤j∧¬ c=0∧L.length≤acc.length+(j - i)+1)
   (fun x=>match x with|.inl (g,e,j)=>[(0,.sure,.ptr q 0),(1,.sure,.list (.own rt 0) 5 ((gl acc e).map encN))]|.inr (c,j,L)=>[(0,.sure,.ptr q 0),(1,.sure,.list (.own rt 0) 5 (L.map encN))])
   (fun x=>match x with|.inl (g,e,j)=>[(q,.cells [LTk l,ii j,ii d,ii 0,ii a] 56),(rt,.tok (gl acc e).length)]|.inr (c,j,L)=>[(q,.cells [LTk l,ii j,ii d,ii c,ii (tk l j).pos] 56),(rt,.tok L.length)])
   (fun x=>match x with|.inl (g,_,_)=>g+1|.inr _=>0) (.inl (n,e0,j0)) ⟨Nat.le_refl _,hj0,hij0,by omega,h⟩ (by repeat' first|exact Sub.nil _|refine Sub.auto ?_) Subp.tk ?_
  clear h hl0 zl0 hj0 hij0
  rintro (⟨g,e,j⟩|⟨c,j,L⟩) hJ
  rotate_left
  ·dsimp only at hJ ⊢
   obtain ⟨⟨d',rfl⟩,hj,hij,c0,hL⟩:=hJ
   have T:=rtake_er q l j d c (tk l j).pos tOr hj c0
   clear IH PF PE
   unfold rs at *
   repeat' first|refine Ops.tag rfl ?_|(refine OpsT.go ?_;(conv=>arg 7;whnf))|refine Stp.pure rfl ?_|refine PutK.mk' rfl ?_|refine Ops.nil ?_|((with_reducible refine Side.id ?_);first|refine Side.auto ?_)|((with_reducible refine Br.id ?_);first|(with_reducible first|refine br_false rfl ?_))|((with_reducible refine SemWp.id ?_);first|refine sem_seq ?_|refine sem_region rfl ?_|refine sem_cond rfl ?_|refine sem_exit ?_|refine sem_ret ?_)|((with_reducible refine qThen.id ?_);first|refine qThen.go ?_)|refine Stp.call ?_|((with_reducible refine CallWp.id ?_);first|(refine callA cx (T) ?_;(conv=>whnf)))|((with_reducible refine BodyR.id ?_);first|refine BodyR.ret ?_)|((with_reducible refine ResG.id ?_);first|refine ResG.tmp rfl ?_|refine ResG.nil ?_)
   refine Fin.mk ⟨L,hL,WeakerE.refl _,Subp.tk⟩
  dsimp only at hJ ⊢
  obtain ⟨hgn,hj,hij,hl,h⟩:=hJ
  have ml:((gl acc e).map encN).length=(gl acc e).length:=by simp
  cases g with
  |zero=>cases h
  |succ g=>
  simp only [pE] at h
  cases b0:isT l j tOr with
  |true=>
   have hk:orK l j=some 20:=by simp [orK,b0]
   rw [hk] at h
   have hj1:=wf.more j hj (isT_kind b0)
   have I0:=rtake_yes q l j d a tOr wf hj b0
   cases hb2:pE l g .conj d (j+1) with
   |none=>rw [hb2] at h;cases h
   |some r2=>
   rw [hb2] at h
   have C2:=IH g (by omega) d (j+1) r2 hj1 h0 h1 hb2 q rt a (gl acc e) hq (by omega)
   cases r2 with
   |error x=>
    obtain ⟨c,j2,d'⟩:=x
    cases h
    obtain ⟨hj2,hij2,hc⟩:=PE g (j+1) hj1 _ _ _ hb2
    have TW:=fun (x:List ND) (hx:x.length≤20000)=>two_spec rt x (((gl acc e).length:Int) - 1) 20 (by omega)
    simp only [ExG] at C2
    clear IH PF PE hb2
    unfold rs ow at *
    repeat' first|refine Ops.tag rfl ?_|(refine OpsT.go ?_;(conv=>arg 7;whnf))|((with_reducible refine Stp.isSum ?_);refine Stp.sum ?_)|refine Stp.pure rfl ?_|refine PutK.mk' rfl ?_|refine Ops.nil ?_|((with_reducible refine Side.id ?_);first|refine Side.auto ?_)|((with_reducible refine Br.id ?_);first|(with_reducible first|refine br_true rfl ?_))|((with_reducible refine SemWp.id ?_);first|refine sem_seq ?_|refine sem_region rfl ?_|refine sem_cond rfl ?_|refine sem_block ?_|refine sem_skip ?_)|((with_reducible refine qThen.id ?_);first|refine qThen.go ?_)|((with_reducible refine hinBlock.id ?_);first|refine hinBlock.go ?_)|((with_reducible refine hround.id ?_);first|refine hround.go ?_)|refine Stp.call ?_|((with_reducible refine CallWp.id ?_);first|(refine callA cx (I0) ?_;(conv=>whnf))|(refine callX cx (C2) (fun g hg=>?_);(conv=>whnf))|(refine callA cx (TW g (by omega)) ?_;(conv=>whnf)))|rw [ml]
    refine Fin.mk ⟨.inr (c,j2,g ++ [⟨20,0,noS,((gl acc e).length:Int) - 1,(g.length:Int) - 1⟩]),⟨⟨_,rfl⟩,hj2,by omega,by omega,by rw [List.length_append,List.length_singleton];omega⟩,by show 0 < _+1+1;omega,by repeat' first|exact Sub.nil _|refine Sub.auto ?_ rfl (by first|rfl|assumption|omega|exact (congrArg (HV.list (Tok.own rt 0) 5) (map_snoc _ _)).symm),Subp.tk⟩
   |ok x=>
    obtain ⟨e2,j2⟩:=x
    have h:pE l g (.condL (.bin 20 e e2)) d j2=some res:=h
    obtain ⟨hj2,hij2,hl2⟩:=PF g (j+1) hj1 _ _ hb2
    simp only [Lv.base] at hl2
    have zl:=gl_len (gl acc e) e2
    have TW:=two_spec rt (gl (gl acc e) e2) (((gl acc e).length:Int) - 1) 20 (by omega)
    have zb:(gl acc (.bin 20 e e2)).length=(gl (gl acc e) e2).length+1:=by rw [gl_bin,List.length_append,List.length_singleton]
    rw [←gl_bin] at TW
    have C2:To 63 [.ptr q 0,ow rt (gl acc e)] [(q,rs l (j+1) d 0 a),(rt,.tok (gl acc e).length)] (.ret (ow rt (gl (gl acc e) e2))) [(q,rs l j2 d 0 a),(rt,.tok (gl (gl acc e) e2).length)]:=C2
    clear IH PF PE hb2
    unfold rs ow at *
    repeat' first|refine Ops.tag rfl ?_|(refine OpsT.go ?_;(conv=>arg 7;whnf))|((with_reducible refine Stp.isSum ?_);refine Stp.sum ?_)|refine Stp.pure rfl ?_|refine PutK.mk' rfl ?_|refine Ops.nil ?_|((with_reducible refine Side.id ?_);first|refine Side.auto ?_)|((with_reducible refine Br.id ?_);first|(with_reducible first|refine br_true rfl ?_))|((with_reducible refine SemWp.id ?_);first|refine sem_seq ?_|refine sem_region rfl ?_|refine sem_cond rfl ?_|refine sem_block ?_|refine sem_skip ?_)|((with_reducible refine qThen.id ?_);first|refine qThen.go ?_)|((with_reducible refine hinBlock.id ?_);first|refine hinBlock.go ?_)|((with_reducible refine hround.id ?_);first|refine hround.go ?_)|refine Stp.call ?_|((with_reducible refine CallWp.id ?_);first|(refine callA cx (I0) ?_;(conv=>whnf))|(refine callA cx (C2) ?_;(conv=>whnf))|(refine callA cx (TW) ?_;(conv=>whnf)))|rw [ml]
    refine Fin.mk ⟨.inl (g,.bin 20 e e2,j2),⟨by omega,hj2,by omega,by omega,h⟩,by show g+1 < g+1+1;omega,by repeat' first|exact Sub.nil _|refine Sub.auto ?_,Subp.tk⟩
  |false=>
  have hk:orK l j=none:=by simp [orK,b0]
  rw [hk] at h
  cases h
  have I0:=rtake_no q l j d a tOr hj b0
  clear IH PF PE
  unfold rs at *
  repeat' first|refine Ops.tag rfl ?_|(refine OpsT.go ?_;(conv=>arg 7;whnf))|refine Stp.pure rfl ?_|refine PutK.mk' rfl ?_|refine Ops.nil ?_|((with_reducible refine Side.id ?_);first|refine Side.auto ?_)|((with_reducible refine Br.id ?_);first|(with_reducible first|refine br_false rfl ?_))|((with_reducible refine SemWp.id ?_);first|refine sem_seq ?_|refine sem_region rfl ?_|refine sem_cond rfl ?_|refine sem_exit ?_|refine sem_ret ?_)|((with_reducible refine qThen.id ?_);first|refine qThen.go ?_)|refine Stp.call ?_|((with_reducible refine CallWp.id ?_);first|(refine callA cx (I0) ?_;(conv=>whnf)))|((with_reducible refine BodyR.id ?_);first|refine BodyR.ret ?_)|((with_reducible refine ResG.id ?_);first|refine ResG.tmp rfl ?_|refine ResG.nil ?_)
  refine Fin.mk ⟨WeakerE.refl _,Subp.tk⟩
end Go.Proofs.Hk

set_option linter.unusedSimpArgs false
set_option linter.unusedVariables false
set_option maxRecDepth 4000
namespace Go.Proofs.Hk
open Go Go.Proofs
set_option maxHeartbeats 4000000 in
theorem rconj_lvl (l:List Tk) (wf:WfT l) (n:Nat) (IH:ExA l n 71 .lit) (i:Nat) (d:Int) (res) (hi:i < l.length) (h0:0≤d) (h1:d≤50) (h:(bindR (pE l n .lit d i) fun e j=>pE l n (.conjL e) d j)=some res) (q rt:Nat) (a:Int) (acc:List ND) (hq:q≠rt) (ha:acc.length≤i):ExG l q rt acc i d a 63 res:=by
 have wl:=wf.len
 have hq':rt≠q:=Ne.symm hq
 cases hb:pE l n .lit d i with
 |none=>rw [hb] at h;cases h
 |some r1=>
 rw [hb] at h
 have C:=IH n (Nat.le_refl _) d i r1 hi h0 h1 hb q rt a acc hq ha
 cases r1 with
 |error x=>
  obtain ⟨c,j,d'⟩:=x
  cases h
  obtain ⟨hj,hij,hc⟩:=pE_err wf _ _ _ _ hi _ _ _ hb
  have c0:¬ c=0:=by omega
  have T:=rtake_er q l j d c (tk l j).pos tAnd hj c0
  refine ExG.of ?_
  simp only [ExG] at C
  clear IH hb
  unfold rs ow at *
  refine sem_calls' cx (fn:=Tryz.f63) rfl rfl rfl rfl ?_
  repeat' first|refine Ops.tag rfl ?_|(refine OpsT.go ?_;(conv=>arg 7;whnf))|refine Stp.pure rfl ?_|refine PutK.mk' rfl ?_|refine Ops.nil ?_|((with_reducible refine Side.id ?_);first|refine Side.auto ?_)|((with_reducible refine SemWp.id ?_);first|refine sem_seq ?_|refine sem_region rfl ?_|refine sem_block ?_)|((with_reducible refine qThen.id ?_);first|refine qThen.go ?_)|refine Stp.call ?_|((with_reducible refine CallWp.id ?_);first|(refine callX cx (C) (fun g hg=>?_);(conv=>whnf)))
  refine sem_loop cx (ι:=Unit) (fun _=>True) (fun _=>[(0,.sure,.ptr q 0),(1,.sure,.list (.own rt 0) 5 (g.map encN))]) (fun _=>[(q,.cells [LTk l,ii j,ii d,ii c,ii (tk l j).pos] 56),(rt,.tok g.length)]) (fun _=>0) () trivial (by repeat' first|exact Sub.nil _|refine Sub.auto ?_) Subp.tk ?_
  rintro _ _
  repeat' first|refine Ops.tag rfl ?_|(refine OpsT.go ?_;(conv=>arg 7;whnf))|refine Stp.pure rfl ?_|refine PutK.mk' rfl ?_|refine Ops.nil ?_|((with_reducible refine Side.id ?_);first|refine Side.auto ?_)|((with_reducible refine Br.id ?_);first|(with_reducible first|refine br_false rfl ?_))|((with_reducible refine SemWp.id ?_);first|refine sem_seq ?_|refine sem_region rfl ?_|refine sem_cond rfl ?_|refine sem_exit ?_|refine sem_ret ?_)|((with_reducible refine qThen.id ?_);first|refine qThen.go ?_)|refine Stp.call ?_|((with_reducible refine CallWp.id ?_);first|(refine callA cx (T) ?_;(conv=>whnf)))|((with_reducible refine BodyR.id ?_);first|refine BodyR.ret ?_)|((with_reducible refine ResG.id ?_);first|refine ResG.tmp rfl ?_|refine ResG.nil ?_)
  refine Fin.mk ⟨g,hg,WeakerE.refl _,Subp.tk⟩
 |ok x=>
  obtain ⟨e0,j0⟩:=x
  have h:pE l n (.conjL e0) d j0=some res:=h
  obtain ⟨hj0,hij0,hl0⟩:=pE_facts wf _ _ _ _ _ _ hi hb
  simp only [Lv.base] at hl0
  have zl0:=gl_len acc e0
  have C:To 71 [.ptr q 0,ow rt acc] [(q,rs l i d 0 a),(rt,.tok acc.length)] (.ret (ow rt (gl acc e0))) [(q,rs l j0 d 0 a),(rt,.tok (gl acc e0).length)]:=C
  refine ExG.of ?_
  have PF:=fun (g j:Nat) (hj:j < l.length) (x:Ex) (m:Nat) (hx:pE l g .lit d j=some (.ok (x,m)))=>pE_facts wf g .lit d j x m hj hx
  have PE:=fun (g j:Nat) (hj:j < l.length)=>pE_err wf g .lit d j hj
  clear hb
  unfold rs ow at C
  refine sem_calls' cx (fn:=Tryz.f63) rfl rfl rfl rfl ?_
  unfold rs ow
  repeat' first|refine Ops.tag rfl ?_|(refine OpsT.go ?_;(conv=>arg 7;whnf))|refine Stp.pure rfl ?_|refine PutK.mk' rfl ?_|refine Ops.nil ?_|((with_reducible refine Side.id ?_);first|refine Side.auto ?_)|((with_reducible refine SemWp.id ?_);first|refine sem_seq ?_|refine sem_region rfl ?_|refine sem_block ?_)|((with_reducible refine qThen.id ?_);first|refine qThen.go ?_)|refine Stp.call ?_|((with_reducible refine CallWp.id ?_);first|(refine callA cx (C) ?_;(conv=>whnf)))
  clear C
  refine sem_loop cx (ι:=XI) (fun x=>match x with|.inl (g,e,j)=>g≤n∧j < l.length∧i≤j∧(gl acc e).length≤acc.length+(j - i)∧pE l g (.conjL e) d j=some res|.inr (c,j,L)=>(∃ d',res = .error (c,j,d'))∧j < l.length∧i≤j∧¬ c=0∧L.length≤acc.length+(j - i)+1)
   (fun x=>match x with|.inl (g,e,j)=>[(0,.sure,.ptr q 0),(1,.sure,.list (.own rt 0) 5 ((gl acc e).map encN))]|.inr (c,j,L)=>[(0,.sure,.ptr q 0),(1,.sure,.list (.own rt 0) 5 (L.map encN))])
   (fun x=>match x with|.inl (g,e,j)=>[(q,.cells [LTk l,ii j,ii d,ii 0,ii a] 56),(rt,.tok (gl acc e).length)]|.inr (c,j,L)=>[(q,.cells [LTk l,ii j,ii d,ii c,ii (tk l j).pos] 56),(rt,.tok L.length)])
   (fun x=>match x with|.inl (g,_,_)=>g+1|.inr _=>0) (.inl (n,e0,j0)) ⟨Nat.le_refl _,hj0,hij0,by omega,h⟩ (by repeat' first|exact Sub.nil _|refine Sub.auto ?_) Subp.tk ?_
  clear h hl0 zl0 hj0 hij0
  rintro (⟨g,e,j⟩|⟨c,j,L⟩) hJ
  rotate_left
  ·dsimp only at hJ ⊢
   obtain ⟨⟨d',rfl⟩,hj,hij,c0,hL⟩:=hJ
   have T:=rtake_er q l j d c (tk l j).pos tAnd hj c0
   clear IH PF PE
   unfold rs at *
   repeat' first|refine Ops.tag rfl ?_|(refine OpsT.go ?_;(conv=>arg 7;whnf))|refine Stp.pure rfl ?_|refine PutK.mk' rfl ?_|refine Ops.nil ?_|((with_reducible refine Side.id ?_);first|refine Side.auto ?_)|((with_reducible refine Br.id ?_);first|(with_reducible first|refine br_false rfl ?_))|((with_reducible refine SemWp.id ?_);first|refine sem_seq ?_|refine sem_region rfl ?_|refine sem_cond rfl ?_|refine sem_exit ?_|refine sem_ret ?_)|((with_reducible refine qThen.id ?_);first|refine qThen.go ?_)|refine Stp.call ?_|((with_reducible refine CallWp.id ?_);first|(refine callA cx (T) ?_;(conv=>whnf)))|((with_reducible refine BodyR.id ?_);first|refine BodyR.ret ?_)|((with_reducible refine ResG.id ?_);first|refine ResG.tmp rfl ?_|refine ResG.nil ?_)
   refine Fin.mk ⟨L,hL,WeakerE.refl _,Subp.tk⟩
  dsimp only at hJ ⊢
  obtain ⟨hgn,hj,hij,hl,h⟩:=hJ
  have ml:((gl acc e).map encN).length=(gl acc e).length:=by simp
  cases g with
  |zero=>cases h
  |succ g=>
  simp only [pE] at h
  cases b0:isT l j tAnd with
  |true=>
   have hk:andK l j=some 19:=by simp [andK,b0]
   rw [hk] at h
   have hj1:=wf.more j hj (isT_kind b0)
   have I0:=rtake_yes q l j d a tAnd wf hj b0
   cases hb2:pE l g .lit d (j+1) with
   |none=>rw [hb2] at h;cases h
   |some r2=>
   rw [hb2] at h
   have C2:=IH g (by omega) d (j+1) r2 hj1 h0 h1 hb2 q rt a (gl acc e) hq (by omega)
   cases r2 with
   |error x=>
    obtain ⟨c,j2,d'⟩:=x
    cases h
    obtain ⟨hj2,hij2,hc⟩:=PE g (j+1) hj1 _ _ _ hb2
    have TW:=fun (x:List ND) (hx:x.length≤20000)=>two_spec rt x (((gl acc e).length:Int) - 1) 19 (by omega)
    simp only [ExG] at C2
    clear IH PF PE hb2
    unfold rs ow at *
    repeat' first|refine Ops.tag rfl ?_|(refine OpsT.go ?_;(conv=>arg 7;whnf))|((with_reducible refine Stp.isSum ?_);refine Stp.sum ?_)|refine Stp.pure rfl ?_|refine PutK.mk' rfl ?_|refine Ops.nil ?_|((with_reducible refine Side.id ?_);first|refine Side.auto ?_)|((with_reducible refine Br.id ?_);first|(with_reducible first|refine br_true rfl ?_))|((with_reducible refine SemWp.id ?_);first|refine sem_seq ?_|refine sem_region rfl ?_|refine sem_cond rfl ?_|refine sem_block ?_|refine sem_skip ?_)|((with_reducible refine qThen.id ?_);first|refine qThen.go ?_)|((with_reducible refine hinBlock.id ?_);first|refine hinBlock.go ?_)|((with_reducible refine hround.id ?_);first|refine hround.go ?_)|refine Stp.call ?_|((with_reducible refine CallWp.id ?_);first|(refine callA cx (I0) ?_;(conv=>whnf))|(refine callX cx (C2) (fun g hg=>?_);(conv=>whnf))|(refine callA cx (TW g (by omega)) ?_;(conv=>whnf)))|rw [ml]
    refine Fin.mk ⟨.inr (c,j2,g ++ [⟨19,0,noS,((gl acc e).length:Int) - 1,(g.length:Int) - 1⟩]),⟨⟨_,rfl⟩,hj2,by omega,by omega,by rw [List.length_append,List.length_singleton];omega⟩,by show 0 < _+1+1;omega,by repeat' first|exact Sub.nil _|refine Sub.auto ?_ rfl (by first|rfl|assumption|omega|exact (congrArg (HV.list (Tok.own rt 0) 5) (map_snoc _ _)).symm),Subp.tk⟩
   |ok x=>
    obtain ⟨e2,j2⟩:=x
    have h:pE l g (.conjL (.bin 19 e e2)) d j2=some res:=h
    obtain ⟨hj2,hij2,hl2⟩:=PF g (j+1) hj1 _ _ hb2
    simp only [Lv.base] at hl2
    have zl:=gl_len (gl acc e) e2
    have TW:=two_spec rt (gl (gl acc e) e2) (((gl acc e).length:Int) - 1) 19 (by omega)
    have zb:(gl acc (.bin 19 e e2)).length=(gl (gl acc e) e2).length+1:=by rw [gl_bin,List.length_append,List.length_singleton]
    rw [←gl_bin] at TW
    have C2:To 71 [.ptr q 0,ow rt (gl acc e)] [(q,rs l (j+1) d 0 a),(rt,.tok (gl acc e).length)] (.ret (ow rt (gl (gl acc e) e2))) [(q,rs l j2 d 0 a),(rt,.tok (gl (gl acc e) e2).length)]:=C2
    clear IH PF PE hb2
    unfold rs ow at *
    repeat' first|refine Ops.tag rfl ?_|(refine OpsT.go ?_;(conv=>arg 7;whnf))|((with_reducible refine Stp.isSum ?_);refine Stp.sum ?_)|refine Stp.pure rfl ?_|refine PutK.mk' rfl ?_|refine Ops.nil ?_|((with_reducible refine Side.id ?_);first|refine Side.auto ?_)|((with_reducible refine Br.id ?_);first|(with_reducible first|refine br_true rfl ?_))|((with_reducible refine SemWp.id ?_);first|refine sem_seq ?_|refine sem_region rfl ?_|refine sem_cond rfl ?_|refine sem_block ?_|refine sem_skip ?_)|((with_reducible refine qThen.id ?_);first|refine qThen.go ?_)|((with_reducible refine hinBlock.id ?_);first|refine hinBlock.go ?_)|((with_reducible refine hround.id ?_);first|refine hround.go ?_)|refine Stp.call ?_|((with_reducible refine CallWp.id ?_);first|(refine callA cx (I0) ?_;(conv=>whnf))|(refine callA cx (C2) ?_;(conv=>whnf))|(refine callA cx (TW) ?_;(conv=>whnf)))|rw [ml]
    refine Fin.mk ⟨.inl (g,.bin 19 e e2,j2),⟨by omega,hj2,by omega,by omega,h⟩,by show g+1 < g+1+1;omega,by repeat' first|exact Sub.nil _|refine Sub.auto ?_,Subp.tk⟩
  |false=>
  have hk:andK l j=none:=by simp [andK,b0]
  rw [hk] at h
  cases h
  have I0:=rtake_no q l j d a tAnd hj b0
  clear IH PF PE
  unfold rs at *
  repeat' first|refine Ops.tag rfl ?_|(refine OpsT.go ?_;(conv=>arg 7;whnf))|refine Stp.pure rfl ?_|refine PutK.mk' rfl ?_|refine Ops.nil ?_|((with_reducible refine Side.id ?_);first|refine Side.auto ?_)|((with_reducible refine Br.id ?_);first|(with_reducible first|refine br_false rfl ?_))|((with_reducible refine SemWp.id ?_);first|refine sem_seq ?_|refine sem_region rfl ?_|refine sem_cond rfl ?_|refine sem_exit ?_|refine sem_ret ?_)|((with_reducible refine qThen.id ?_);first|refine qThen.go ?_)|refine Stp.call ?_|((with_reducible refine CallWp.id ?_);first|(refine callA cx (I0) ?_;(conv=>whnf)))|((with_reducible refine BodyR.id ?_);first|refine BodyR.ret ?_)|((with_reducible refine ResG.id ?_);first|refine ResG.tmp rfl ?_|refine ResG.nil ?_)
  refine Fin.mk ⟨WeakerE.refl _,Subp.tk⟩
end Go.Proofs.Hk

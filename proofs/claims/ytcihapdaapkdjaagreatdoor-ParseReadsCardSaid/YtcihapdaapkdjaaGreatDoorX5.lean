import Derived.Test.YtcihapdaapkdjaaGreatDoorX4l
import Derived.Test.YtcihapdaapkdjaaGreatDoorH41
set_option linter.unusedSimpArgs false
set_option linter.unusedVariables false
set_option maxRecDepth 4000
namespace Go.Proofs.Hk
open Go Go.Proofs
theorem allX (l:List Tk) (wf:WfN l):∀ n,AllX l n
 |0=>by
  constructor<;>(intro f hf d i res hi h0 h1 h;cases Nat.le_zero.1 hf;simp [pE] at h)
 |n+1=>by
  have IH:=allX l wf n
  have wt:=wf.toWfT
  constructor
  ·intro f hf d i res hi h0 h1 h q rt a acc hq ha
   rcases Nat.lt_or_ge n f with hlt|hge
   ·have:f=n+1:=by omega
    subst this
    exact runary_lvl l wf n IH i d res hi h0 h1 h q rt a acc hq ha
   ·exact IH.unary f hge d i res hi h0 h1 h q rt a acc hq ha
  ·intro f hf d i res hi h0 h1 h q rt a acc hq ha
   rcases Nat.lt_or_ge n f with hlt|hge
   ·have:f=n+1:=by omega
    subst this
    exact rterm_lvl l wt n IH.unary i d res hi h0 h1 h q rt a acc hq ha
   ·exact IH.term f hge d i res hi h0 h1 h q rt a acc hq ha
  ·intro f hf d i res hi h0 h1 h q rt a acc hq ha
   rcases Nat.lt_or_ge n f with hlt|hge
   ·have:f=n+1:=by omega
    subst this
    exact rexpr_lvl l wt n IH.term i d res hi h0 h1 h q rt a acc hq ha
   ·exact IH.expr f hge d i res hi h0 h1 h q rt a acc hq ha
  ·intro f hf d i res hi h0 h1 h q rt a acc hq ha
   rcases Nat.lt_or_ge n f with hlt|hge
   ·have:f=n+1:=by omega
    subst this
    exact rlit_lvl l wf n IH i d res hi h0 h1 h q rt a acc hq ha
   ·exact IH.lit f hge d i res hi h0 h1 h q rt a acc hq ha
  ·intro f hf d i res hi h0 h1 h q rt a acc hq ha
   rcases Nat.lt_or_ge n f with hlt|hge
   ·have:f=n+1:=by omega
    subst this
    exact rconj_lvl l wt n IH.lit i d res hi h0 h1 h q rt a acc hq ha
   ·exact IH.conj f hge d i res hi h0 h1 h q rt a acc hq ha
  ·intro f hf d i res hi h0 h1 h q rt a acc hq ha
   rcases Nat.lt_or_ge n f with hlt|hge
   ·have:f=n+1:=by omega
    subst this
    exact rcond_lvl l wt n IH.conj i d res hi h0 h1 h q rt a acc hq ha
   ·exact IH.cond f hge d i res hi h0 h1 h q rt a acc hq ha
/-- What comes of nothing: nodes. -/
def NiG (l:List Tk) (q:Nat) (i:Nat) (d a:Int) (fn:FuncId) (res:Except (Int × Nat × Int) (Ex × Nat)):Prop:=
 match res with
 |.ok (e,j)=>To fn [.ptr q 0,.v (.slice none 0 0)] [(q,rs l i d 0 a)] (.ret (LNs (e.flat 0))) [(q,rs l j d 0 a)]
 |.error (c,j,_)=>HCalls cx.P fn [.ptr q 0,.v (.slice none 0 0)] [(q,rs l i d 0 a)] fun e st=>∃ g:List ND,True∧e = .ret (LNs g)∧st=[(q,rs l j d c (tk l j).pos)]
theorem ni_of {l:List Tk} {q i:Nat} {d a:Int} {fn:FuncId} {res:Except (Int × Nat × Int) (Ex × Nat)} (h:∀ rt,q≠rt→ExG l q rt [] i d a fn res):NiG l q i d a fn res:=by
 cases res with
 |ok x=>
  obtain ⟨e,j⟩:=x
  have h:∀ rt,q≠rt→To fn [.ptr q 0,ow rt []] [(q,rs l i d 0 a),(rt,.tok 0)] (.ret (ow rt (gl [] e))) [(q,rs l j d 0 a),(rt,.tok (gl [] e).length)]:=h
  show To _ _ _ _ _
  refine HCalls.nilOwn (pre:=[.ptr q 0]) 5 fun rt hrt=>?_
  have hq:q≠rt:=fun e=>hrt (by subst e;simp [keys])
  refine HCalls.weaken (HCalls.perm (List.Perm.swap _ _ _) (h rt hq)) fun e1 st ⟨g1,g2⟩=>⟨.ret (LNs (gl [] e)),[(q,rs l j d 0 a)],by rw [g1];exact .ret (Weaker.tok _ _ _),by rw [g2];exact Subp.take (t:=[(rt,_)]) (HTake.cons HPick.hit HTake.nil),?_⟩
  exact ⟨by show HEnd.ret (LNs ([] ++ e.flat 0))=_;rw [List.nil_append],rfl⟩
 |error x=>
  obtain ⟨c,j,d'⟩:=x
  refine HCalls.nilOwn (pre:=[.ptr q 0]) 5 fun rt hrt=>?_
  have hq:q≠rt:=fun e=>hrt (by subst e;simp [keys])
  have h:=h rt hq
  simp only [ExG] at h
  exact HCalls.weaken (HCalls.perm (List.Perm.swap _ _ _) h) fun e1 st ⟨g,_,g1,g2⟩=>⟨.ret (LNs g),[(q,rs l j d c (tk l j).pos)],by rw [g1];exact .ret (Weaker.tok _ _ _),by rw [g2];exact Subp.take (t:=[(rt,_)]) (HTake.cons HPick.hit HTake.nil),g,trivial,rfl,rfl⟩
theorem nie_of {l:List Tk} {fn:FuncId} (h:ErS fn l) (q i:Nat) (d e a:Int) (hi:i < l.length) (he:¬ e=0):To fn [.ptr q 0,.v (.slice none 0 0)] [(q,rs l i d e a)] (.ret (LNs [])) [(q,rs l i d e a)]:=by
 refine HCalls.nilOwn (pre:=[.ptr q 0]) 5 fun rt hrt=>?_
 have hq:q≠rt:=fun e=>hrt (by subst e;simp [keys])
 exact HCalls.weaken (HCalls.perm (List.Perm.swap _ _ _) (h.er q rt i d e a [] hi hq he)) fun e1 st ⟨g1,g2⟩=>⟨.ret (LNs []),[(q,rs l i d e a)],by rw [g1];exact .ret (Weaker.tok _ _ _),by rw [g2];exact Subp.take (t:=[(rt,_)]) (HTake.cons HPick.hit HTake.nil),rfl,rfl⟩
theorem rex_nil (l:List Tk) (wf:WfN l) (f:Nat) (q i:Nat) (d a:Int) (res) (hi:i < l.length) (h0:0≤d) (h1:d≤50) (h:pE l f .expr d i=some res):NiG l q i d a 62 res:=
 ni_of fun rt hq=>(allX l wf f).expr f (Nat.le_refl _) d i res hi h0 h1 h q rt a [] hq (Nat.zero_le _)
theorem rco_nil (l:List Tk) (wf:WfN l) (f:Nat) (q i:Nat) (d a:Int) (res) (hi:i < l.length) (h0:0≤d) (h1:d≤50) (h:pE l f .cond d i=some res):NiG l q i d a 53 res:=
 ni_of fun rt hq=>(allX l wf f).cond f (Nat.le_refl _) d i res hi h0 h1 h q rt a [] hq (Nat.zero_le _)
end Go.Proofs.Hk

set_option linter.unusedSimpArgs false
set_option linter.unusedVariables false
set_option maxRecDepth 4000
namespace Go.Proofs.Hk
open Go Go.Proofs
abbrev YI (α:Type):=(Nat × List α × Nat) ⊕ (Int × Nat × List α)
theorem map_one {α:Type} (l:List α) (f:α→HV) (x:α):(l ++ [x]).map f=l.map f ++ [f x]:=by simp
theorem rargs_er (l:List Tk) (q i:Nat) (d e a:Int) (hi:i < l.length) (he:¬ e=0):To 61 [.ptr q 0] [(q,rs l i d e a)] (.ret (LLNs [])) [(q,rs l i d e a)]:=by
 have T:=rtake_er q l i d e a (tc 41) hi he
 have W:=rwant_er q l i d e a (tc 41) hi he
 unfold rs at *
 refine HCalls.to (sem_calls' cx (fn:=Tryz.f61) rfl rfl rfl rfl ?_)
 repeat' first|refine Ops.tag rfl ?_|(refine OpsT.go ?_;(conv=>arg 7;whnf))|refine Stp.pure rfl ?_|refine PutK.mk' rfl ?_|refine Ops.nil ?_|((with_reducible refine Side.id ?_);first|refine Side.auto ?_)|((with_reducible refine Br.id ?_);first|(with_reducible first|refine br_false rfl ?_))|((with_reducible refine SemWp.id ?_);first|refine sem_seq ?_|refine sem_region rfl ?_|refine sem_cond rfl ?_|refine sem_block ?_|refine sem_skip ?_)|((with_reducible refine qThen.id ?_);first|refine qThen.go ?_)|refine Stp.call ?_|((with_reducible refine CallWp.id ?_);first|(refine callA cx (T) ?_;(conv=>whnf)))
 refine sem_loop cx (ι:=Unit) (fun _=>True) (fun _=>[(0,.sure,.ptr q 0),(3,.sure,.v (.slice none 0 0))]) (fun _=>[(q,.cells [LTk l,ii i,ii d,ii e,ii a] 56)]) (fun _=>0) () trivial (by repeat' first|exact Sub.nil _|refine Sub.auto ?_) (Subp.of_eq rfl) ?_
 rintro _ _
 repeat' first|refine Ops.tag rfl ?_|(refine OpsT.go ?_;(conv=>arg 7;whnf))|((with_reducible refine Stp.isEq ?_);first|refine Stp.eqF ?_)|refine Stp.pure rfl ?_|refine PutK.mk' rfl ?_|refine Ops.nil ?_|((with_reducible refine Look.id ?_);refine Look.at ?_;try (conv=>arg 7;whnf))|((with_reducible refine Side.id ?_);first|refine Side.auto ?_)|((with_reducible refine Br.id ?_);first|(with_reducible first|refine br_false rfl ?_))|((with_reducible refine SemWp.id ?_);first|refine sem_seq ?_|refine sem_region rfl ?_|refine sem_cond rfl ?_|refine sem_exit ?_|refine sem_ret ?_)|((with_reducible refine qThen.id ?_);first|refine qThen.go ?_)|refine Stp.valS ?_|refine Stp.look ?_|refine Stp.call ?_|((with_reducible refine CallWp.id ?_);first|(refine callA cx (W) ?_;(conv=>whnf)))|((with_reducible refine BodyR.id ?_);first|refine BodyR.ret ?_)|((with_reducible refine ResG.id ?_);first|refine ResG.tmp rfl ?_|refine ResG.nil ?_)
 refine Fin.mk ⟨(.ret (Weaker.nil _)),Subp.tk⟩
def Gargs (l:List Tk) (q i:Nat) (d a:Int) (res:Except (Int × Nat × Int) (List (List ND) × Nat)):Prop:=
 match res with
 |.ok (x,j)=>To 61 [.ptr q 0] [(q,rs l i d 0 a)] (.ret (LLNs x)) [(q,rs l j d 0 a)]
 |.error (c,j,_)=>HCalls cx.P 61 [.ptr q 0] [(q,rs l i d 0 a)] fun e st=>∃ g:List (List ND),True∧e = .ret (LLNs g)∧st=[(q,rs l j d c (tk l j).pos)]
abbrev endGargs (l:List Tk) (q:Nat) (d a:Int) (res:Except (Int × Nat × Int) (List (List ND) × Nat)) (e:HEnd) (st:HS):Prop:=
 match res with
 |.ok (x,j)=>WeakerE e (.ret (LLNs x))∧Subp [(q,rs l j d 0 a)] st
 |.error (c,j,_)=>∃ g:List (List ND),True∧WeakerE e (.ret (LLNs g))∧Subp [(q,rs l j d c (tk l j).pos)] st
theorem Gargs.of {l:List Tk} {q i:Nat} {d a:Int} {res:Except (Int × Nat × Int) (List (List ND) × Nat)} (h:HCalls cx.P 61 [.ptr q 0] [(q,rs l i d 0 a)] (endGargs l q d a res)):Gargs l q i d a res:=by
 cases res with
 |ok x=>exact HCalls.to h
 |error x=>exact HCalls.toX h
set_option maxHeartbeats 4000000 in
theorem rargs_lvl (l:List Tk) (wf:WfN l) (f:Nat) (q i:Nat) (d a:Int) (res) (hi:i < l.length) (h0:0≤d) (h1:d≤50) (h:pArgs0 l f d i=some res):Gargs l q i d a res:=by
 have wt:=wf.toWfT
 have wl:=wt.len
 refine Gargs.of ?_
 unfold pArgs0 at h
 cases b1:isT l i (tc 41) with
 |true=>
  rw [if_pos b1] at h
  cases h
  have T:=rtake_yes q l i d a (tc 41) wt hi b1
  unfold rs at *
  refine sem_calls' cx (fn:=Tryz.f61) rfl rfl rfl rfl ?_
  repeat' first|refine Ops.tag rfl ?_|(refine OpsT.go ?_;(conv=>arg 7;whnf))|refine Stp.pure rfl ?_|refine PutK.mk' rfl ?_|refine Ops.nil ?_|((with_reducible refine Side.id ?_);first|refine Side.auto ?_)|((with_reducible refine Br.id ?_);first|(with_reducible first|refine br_true rfl ?_))|((with_reducible refine SemWp.id ?_);first|refine sem_seq ?_|refine sem_region rfl ?_|refine sem_cond rfl ?_|refine sem_ret ?_)|((with_reducible refine qThen.id ?_);first|refine qThen.go ?_|refine qThen.ret ?_)|refine Stp.call ?_|((with_reducible refine CallWp.id ?_);first|(refine callA cx (T) ?_;(conv=>whnf)))|((with_reducible refine BodyR.id ?_);first|refine BodyR.ret ?_)|((with_reducible refine ResG.id ?_);first|refine ResG.tmp rfl ?_|refine ResG.nil ?_)
  refine Fin.mk ⟨(.ret (Weaker.nil _)),Subp.tk⟩
 |false=>
 rw [if_neg (by rw [b1];exact Bool.false_ne_true)] at h
 have T:=rtake_no q l i d a (tc 41) hi b1
 unfold rs at T
 refine sem_calls' cx (fn:=Tryz.f61) rfl rfl rfl rfl ?_
 unfold rs
 repeat' first|refine Ops.tag rfl ?_|(refine OpsT.go ?_;(conv=>arg 7;whnf))|refine Stp.pure rfl ?_|refine PutK.mk' rfl ?_|refine Ops.nil ?_|((with_reducible refine Side.id ?_);first|refine Side.auto ?_)|((with_reducible refine Br.id ?_);first|(with_reducible first|refine br_false rfl ?_))|((with_reducible refine SemWp.id ?_);first|refine sem_seq ?_|refine sem_region rfl ?_|refine sem_cond rfl ?_|refine sem_block ?_|refine sem_skip ?_)|((with_reducible refine qThen.id ?_);first|refine qThen.go ?_)|refine Stp.call ?_|((with_reducible refine CallWp.id ?_);first|(refine callA cx (T) ?_;(conv=>whnf)))
 refine sem_nil_own cx 3 1 rfl ?_
 intro rt hrt
 simp only [keys,List.map_cons,List.map_nil,List.mem_cons,List.not_mem_nil,not_or,or_false,not_false_eq_true] at hrt
 have hq:q≠rt:=fun e=>hrt e.symm
 have hq':rt≠q:=hrt
 refine sem_loop cx (ι:=YI (List ND)) (fun x=>match x with|.inl (g,acc,j)=>j < l.length∧acc.length≤j∧pArgs l g acc d j=some res|.inr (c,j,L)=>False)
  (fun x=>match x with|.inl (g,acc,j)=>[(0,.sure,.ptr q 0),(3,.sure,.list (.own rt 0) 1 (acc.map LNs))]|.inr _=>[])
  (fun x=>match x with|.inl (g,acc,j)=>[(q,.cells [LTk l,ii j,ii d,ii 0,ii a] 56),(rt,.tok acc.length)]|.inr _=>[])
  (fun x=>match x with|.inl (g,_,_)=>g|.inr _=>0) (.inl (f,[],i)) ⟨hi,Nat.zero_le _,h⟩ (by repeat' first|exact Sub.nil _|refine Sub.auto ?_) Subp.tk ?_
 clear h b1 T hi
 rintro (⟨g,acc,j⟩|⟨c,j,L⟩) hJ
 rotate_left
 ·exact hJ.elim
 dsimp only at hJ ⊢
 obtain ⟨hj,hla,h⟩:=hJ
 have ml:(acc.map LNs).length=acc.length:=by simp
 cases g with
 |zero=>cases h
 |succ g=>
 unfold pArgs at h
 cases hb:pE l g .expr d j with
 |none=>rw [hb] at h;cases h
 |some r1=>
 rw [hb] at h
 have C:=rex_nil l wf g q j d a r1 hj h0 h1 hb
 cases r1 with
 |error x=>
  obtain ⟨c,m,d'⟩:=x
  cases h
  obtain ⟨hm,_,hc⟩:=pE_err wt _ _ _ _ hj _ _ _ hb
  have c0:¬ c=0:=by omega
  have T:=rtake_er q l m d c (tk l m).pos (tc 44) hm c0
  have W:=rwant_er q l m d c (tk l m).pos (tc 41) hm c0
  simp only [NiG] at C
  clear hb
  unfold rs at *
  repeat' first|refine Ops.tag rfl ?_|(refine OpsT.go ?_;(conv=>arg 7;whnf))|(with_reducible first|refine Stp.notF ?_)|((with_reducible refine Stp.isEq ?_);first|refine Stp.eqT ?_)|refine Stp.pure rfl ?_|((with_reducible refine PutK.isSet ?_);refine PutK.st ?_)|refine PutK.mk' rfl ?_|refine Ops.nil ?_|((with_reducible refine Look.id ?_);refine Look.at ?_;try (conv=>arg 7;whnf))|((with_reducible refine Side.id ?_);first|refine Side.auto ?_)|((with_reducible refine Br.id ?_);first|(with_reducible first|refine br_true rfl ?_))|((with_reducible refine SemWp.id ?_);first|refine sem_seq ?_|refine sem_region rfl ?_|refine sem_cond rfl ?_|refine sem_block ?_|refine sem_exit ?_|refine sem_ret ?_|refine sem_skip ?_)|((with_reducible refine qThen.id ?_);first|refine qThen.go ?_)|((with_reducible refine hinBlock.id ?_);first|refine hinBlock.here rfl ?_|refine hinBlock.on rfl ?_)|((with_reducible refine hround.id ?_);first|refine hround.exit ?_)|refine Stp.valS ?_|refine Stp.look ?_|refine Stp.call ?_|refine Stp.eff ?_|((with_reducible refine CallWp.id ?_);first|(refine callX cx (C) (fun g hg=>?_);(conv=>whnf))|(refine callA cx (T) ?_;(conv=>whnf))|(refine callA cx (W) ?_;(conv=>whnf)))|((with_reducible refine BodyR.id ?_);first|refine BodyR.ret ?_)|((with_reducible refine ResG.id ?_);first|refine ResG.tmp rfl ?_|refine ResG.nil ?_)
  refine Fin.mk ⟨acc ++ [g],trivial,by show WeakerE _ (HEnd.ret (.list .no 1 ((acc ++ [g]).map LNs)));rw [map_one];exact .ret (Weaker.tok _ _ _),Subp.tk⟩
 |ok x=>
  obtain ⟨e,m⟩:=x
  have h:(if isT l m (tc 44)=true then pArgs l g (acc ++ [e.flat 0]) d (m+1) else if isT l m (tc 41)=true then okR (acc ++ [e.flat 0]) (m+1) else errR 4 m d)=some res:=h
  obtain ⟨hm,hjm,_⟩:=pE_facts wt _ _ _ _ _ _ hj hb
  have C:To 62 [.ptr q 0,.v (.slice none 0 0)] [(q,rs l j d 0 a)] (.ret (LNs (e.flat 0))) [(q,rs l m d 0 a)]:=C
  clear hb
  generalize e.flat 0=x at *
  have e1:=map_one acc LNs x
  have e2:(acc ++ [x]).length=acc.length+1:=by simp
  cases b2:isT l m (tc 44) with
  |true=>
   rw [if_pos b2] at h
   have hm1:=wt.more m hm (isT_kind b2)
   have T:=rtake_yes q l m d a (tc 44) wt hm b2
   unfold rs at *
   repeat' first|refine Ops.tag rfl ?_|(refine OpsT.go ?_;(conv=>arg 7;whnf))|(with_reducible first|refine Stp.notT ?_)|((with_reducible refine Stp.isEq ?_);first|refine Stp.eqT ?_)|refine Stp.pure rfl ?_|((with_reducible refine PutK.isSet ?_);refine PutK.st ?_)|refine PutK.mk' rfl ?_|refine Ops.nil ?_|((with_reducible refine Look.id ?_);refine Look.at ?_;try (conv=>arg 7;whnf))|((with_reducible refine Side.id ?_);first|refine Side.auto ?_)|((with_reducible refine Br.id ?_);first|(with_reducible first|refine br_true rfl ?_|refine br_false rfl ?_))|((with_reducible refine SemWp.id ?_);first|refine sem_seq ?_|refine sem_region rfl ?_|refine sem_cond rfl ?_|refine sem_block ?_|refine sem_skip ?_)|((with_reducible refine qThen.id ?_);first|refine qThen.go ?_)|((with_reducible refine hinBlock.id ?_);first|refine hinBlock.go ?_)|((with_reducible refine hround.id ?_);first|refine hround.go ?_)|refine Stp.valS ?_|refine Stp.look ?_|refine Stp.call ?_|refine Stp.eff ?_|((with_reducible refine CallWp.id ?_);first|(refine callA cx (C) ?_;(conv=>whnf))|(refine callA cx (T) ?_;(conv=>whnf)))
   refine Fin.mk ⟨.inl (g,acc ++ [x],m+1),⟨hm1,by rw [e2];omega,h⟩,by show g < g+1;omega,Sub.cons rfl rfl (Sub.cons rfl (by rw [e1]) (Sub.nil _)),?_⟩
   dsimp only
   rw [e2]
   exact Subp.tk
  |false=>
   rw [if_neg (by rw [b2];exact Bool.false_ne_true)] at h
   have T:=rtake_no q l m d a (tc 44) hm b2
   cases b3:isT l m (tc 41) with
   |true=>
    rw [if_pos b3] at h
    cases h
    have W:=rwant_yes q l m d a (tc 41) wt hm b3
    unfold rs at *
    repeat' first|refine Ops.tag rfl ?_|(refine OpsT.go ?_;(conv=>arg 7;whnf))|(with_reducible first|refine Stp.notF ?_)|((with_reducible refine Stp.isEq ?_);first|refine Stp.eqT ?_)|refine Stp.pure rfl ?_|((with_reducible refine PutK.isSet ?_);refine PutK.st ?_)|refine PutK.mk' rfl ?_|refine Ops.nil ?_|((with_reducible refine Look.id ?_);refine Look.at ?_;try (conv=>arg 7;whnf))|((with_reducible refine Side.id ?_);first|refine Side.auto ?_)|((with_reducible refine Br.id ?_);first|(with_reducible first|refine br_true rfl ?_))|((with_reducible refine SemWp.id ?_);first|refine sem_seq ?_|refine sem_region rfl ?_|refine sem_cond rfl ?_|refine sem_block ?_|refine sem_exit ?_|refine sem_ret ?_|refine sem_skip ?_)|((with_reducible refine qThen.id ?_);first|refine qThen.go ?_)|((with_reducible refine hinBlock.id ?_);first|refine hinBlock.here rfl ?_|refine hinBlock.on rfl ?_)|((with_reducible refine hround.id ?_);first|refine hround.exit ?_)|refine Stp.valS ?_|refine Stp.look ?_|refine Stp.call ?_|refine Stp.eff ?_|((with_reducible refine CallWp.id ?_);first|(refine callA cx (C) ?_;(conv=>whnf))|(refine callA cx (T) ?_;(conv=>whnf))|(refine callA cx (W) ?_;(conv=>whnf)))|((with_reducible refine BodyR.id ?_);first|refine BodyR.ret ?_)|((with_reducible refine ResG.id ?_);first|refine ResG.tmp rfl ?_|refine ResG.nil ?_)
    refine Fin.mk ⟨by show WeakerE _ (HEnd.ret (.list .no 1 ((acc ++ [x]).map LNs)));rw [e1];exact .ret (Weaker.tok _ _ _),Subp.tk⟩
   |false=>
    rw [if_neg (by rw [b3];exact Bool.false_ne_true)] at h
    cases h
    have W:=rwant_no q l m d a (tc 41) hm b3
    unfold rs at *
    repeat' first|refine Ops.tag rfl ?_|(refine OpsT.go ?_;(conv=>arg 7;whnf))|(with_reducible first|refine Stp.notF ?_)|((with_reducible refine Stp.isEq ?_);first|refine Stp.eqT ?_)|refine Stp.pure rfl ?_|((with_reducible refine PutK.isSet ?_);refine PutK.st ?_)|refine PutK.mk' rfl ?_|refine Ops.nil ?_|((with_reducible refine Look.id ?_);refine Look.at ?_;try (conv=>arg 7;whnf))|((with_reducible refine Side.id ?_);first|refine Side.auto ?_)|((with_reducible refine Br.id ?_);first|(with_reducible first|refine br_true rfl ?_))|((with_reducible refine SemWp.id ?_);first|refine sem_seq ?_|refine sem_region rfl ?_|refine sem_cond rfl ?_|refine sem_block ?_|refine sem_exit ?_|refine sem_ret ?_|refine sem_skip ?_)|((with_reducible refine qThen.id ?_);first|refine qThen.go ?_)|((with_reducible refine hinBlock.id ?_);first|refine hinBlock.here rfl ?_|refine hinBlock.on rfl ?_)|((with_reducible refine hround.id ?_);first|refine hround.exit ?_)|refine Stp.valS ?_|refine Stp.look ?_|refine Stp.call ?_|refine Stp.eff ?_|((with_reducible refine CallWp.id ?_);first|(refine callA cx (C) ?_;(conv=>whnf))|(refine callA cx (T) ?_;(conv=>whnf))|(refine callA cx (W) ?_;(conv=>whnf)))|((with_reducible refine BodyR.id ?_);first|refine BodyR.ret ?_)|((with_reducible refine ResG.id ?_);first|refine ResG.tmp rfl ?_|refine ResG.nil ?_)
    refine Fin.mk ⟨acc ++ [x],trivial,by show WeakerE _ (HEnd.ret (.list .no 1 ((acc ++ [x]).map LNs)));rw [e1];exact .ret (Weaker.tok _ _ _),Subp.tk⟩
theorem rnames_er (l:List Tk) (q i:Nat) (d e a:Int) (hi:i < l.length) (he:¬ e=0):To 37 [.ptr q 0] [(q,rs l i d e a)] (.ret (LSs' [])) [(q,rs l i d e a)]:=by
 have T:=rtake_er q l i d e a (tc 41) hi he
 have W:=rwant_er q l i d e a (tc 41) hi he
 unfold rs at *
 refine HCalls.to (sem_calls' cx (fn:=Tryz.f37) rfl rfl rfl rfl ?_)
 repeat' first|refine Ops.tag rfl ?_|(refine OpsT.go ?_;(conv=>arg 7;whnf))|refine Stp.pure rfl ?_|refine PutK.mk' rfl ?_|refine Ops.nil ?_|((with_reducible refine Side.id ?_);first|refine Side.auto ?_)|((with_reducible refine Br.id ?_);first|(with_reducible first|refine br_false rfl ?_))|((with_reducible refine SemWp.id ?_);first|refine sem_seq ?_|refine sem_region rfl ?_|refine sem_cond rfl ?_|refine sem_block ?_|refine sem_skip ?_)|((with_reducible refine qThen.id ?_);first|refine qThen.go ?_)|refine Stp.call ?_|((with_reducible refine CallWp.id ?_);first|(refine callA cx (T) ?_;(conv=>whnf)))
 refine sem_loop cx (ι:=Unit) (fun _=>True) (fun _=>[(0,.sure,.ptr q 0),(3,.sure,.v (.slice none 0 0))]) (fun _=>[(q,.cells [LTk l,ii i,ii d,ii e,ii a] 56)]) (fun _=>0) () trivial (by repeat' first|exact Sub.nil _|refine Sub.auto ?_) (Subp.of_eq rfl) ?_
 rintro _ _
 repeat' first|refine Ops.tag rfl ?_|(refine OpsT.go ?_;(conv=>arg 7;whnf))|((with_reducible refine Stp.isEq ?_);first|refine Stp.eqF ?_)|refine Stp.pure rfl ?_|refine PutK.mk' rfl ?_|refine Ops.nil ?_|((with_reducible refine Look.id ?_);refine Look.at ?_;try (conv=>arg 7;whnf))|((with_reducible refine Side.id ?_);first|refine Side.auto ?_)|((with_reducible refine Br.id ?_);first|(with_reducible first|refine br_false rfl ?_))|((with_reducible refine SemWp.id ?_);first|refine sem_seq ?_|refine sem_region rfl ?_|refine sem_cond rfl ?_|refine sem_exit ?_|refine sem_ret ?_)|((with_reducible refine qThen.id ?_);first|refine qThen.go ?_)|refine Stp.valS ?_|refine Stp.look ?_|refine Stp.call ?_|((with_reducible refine CallWp.id ?_);first|(refine callA cx (W) ?_;(conv=>whnf)))|((with_reducible refine BodyR.id ?_);first|refine BodyR.ret ?_)|((with_reducible refine ResG.id ?_);first|refine ResG.tmp rfl ?_|refine ResG.nil ?_)
 refine Fin.mk ⟨(.ret (Weaker.nil _)),Subp.tk⟩
def Gnames (l:List Tk) (q i:Nat) (d a:Int) (res:Except (Int × Nat × Int) (List ByteArray × Nat)):Prop:=
 match res with
 |.ok (x,j)=>To 37 [.ptr q 0] [(q,rs l i d 0 a)] (.ret (LSs' x)) [(q,rs l j d 0 a)]
 |.error (c,j,_)=>HCalls cx.P 37 [.ptr q 0] [(q,rs l i d 0 a)] fun e st=>∃ g:List ByteArray,True∧e = .ret (LSs' g)∧st=[(q,rs l j d c (tk l j).pos)]
abbrev endGnames (l:List Tk) (q:Nat) (d a:Int) (res:Except (Int × Nat × Int) (List ByteArray × Nat)) (e:HEnd) (st:HS):Prop:=
 match res with
 |.ok (x,j)=>WeakerE e (.ret (LSs' x))∧Subp [(q,rs l j d 0 a)] st
 |.error (c,j,_)=>∃ g:List ByteArray,True∧WeakerE e (.ret (LSs' g))∧Subp [(q,rs l j d c (tk l j).pos)] st
theorem Gnames.of {l:List Tk} {q i:Nat} {d a:Int} {res:Except (Int × Nat × Int) (List ByteArray × Nat)} (h:HCalls cx.P 37 [.ptr q 0] [(q,rs l i d 0 a)] (endGnames l q d a res)):Gnames l q i d a res:=by
 cases res with
 |ok x=>exact HCalls.to h
 |error x=>exact HCalls.toX h
set_option maxHeartbeats 4000000 in
theorem rnames_lvl (l:List Tk) (wf:WfN l) (f:Nat) (q i:Nat) (d a:Int) (res) (hi:i < l.length) (h0:0≤d) (h1:d≤50) (h:pNames0 l f d i=some res):Gnames l q i d a res:=by
 have wt:=wf.toWfT
 have wl:=wt.len
 refine Gnames.of ?_
 unfold pNames0 at h
 cases b1:isT l i (tc 41) with
 |true=>
  rw [if_pos b1] at h
  cases h
  have T:=rtake_yes q l i d a (tc 41) wt hi b1
  unfold rs at *
  refine sem_calls' cx (fn:=Tryz.f37) rfl rfl rfl rfl ?_
  repeat' first|refine Ops.tag rfl ?_|(refine OpsT.go ?_;(conv=>arg 7;whnf))|refine Stp.pure rfl ?_|refine PutK.mk' rfl ?_|refine Ops.nil ?_|((with_reducible refine Side.id ?_);first|refine Side.auto ?_)|((with_reducible refine Br.id ?_);first|(with_reducible first|refine br_true rfl ?_))|((with_reducible refine SemWp.id ?_);first|refine sem_seq ?_|refine sem_region rfl ?_|refine sem_cond rfl ?_|refine sem_ret ?_)|((with_reducible refine qThen.id ?_);first|refine qThen.go ?_|refine qThen.ret ?_)|refine Stp.call ?_|((with_reducible refine CallWp.id ?_);first|(refine callA cx (T) ?_;(conv=>whnf)))|((with_reducible refine BodyR.id ?_);first|refine BodyR.ret ?_)|((with_reducible refine ResG.id ?_);first|refine ResG.tmp rfl ?_|refine ResG.nil ?_)
  refine Fin.mk ⟨(.ret (Weaker.nil _)),Subp.tk⟩
 |false=>
 rw [if_neg (by rw [b1];exact Bool.false_ne_true)] at h
 have T:=rtake_no q l i d a (tc 41) hi b1
 unfold rs at T
 refine sem_calls' cx (fn:=Tryz.f37) rfl rfl rfl rfl ?_
 unfold rs
 repeat' first|refine Ops.tag rfl ?_|(refine OpsT.go ?_;(conv=>arg 7;whnf))|refine Stp.pure rfl ?_|refine PutK.mk' rfl ?_|refine Ops.nil ?_|((with_reducible refine Side.id ?_);first|refine Side.auto ?_)|((with_reducible refine Br.id ?_);first|(with_reducible first|refine br_false rfl ?_))|((with_reducible refine SemWp.id ?_);first|refine sem_seq ?_|refine sem_region rfl ?_|refine sem_cond rfl ?_|refine sem_block ?_|refine sem_skip ?_)|((with_reducible refine qThen.id ?_);first|refine qThen.go ?_)|refine Stp.call ?_|((with_reducible refine CallWp.id ?_);first|(refine callA cx (T) ?_;(conv=>whnf)))
 refine sem_nil_own cx 3 1 rfl ?_
 intro rt hrt
 simp only [keys,List.map_cons,List.map_nil,List.mem_cons,List.not_mem_nil,not_or,or_false,not_false_eq_true] at hrt
 have hq:q≠rt:=fun e=>hrt e.symm
 have hq':rt≠q:=hrt
 refine sem_loop cx (ι:=YI ByteArray) (fun x=>match x with|.inl (g,acc,j)=>j < l.length∧acc.length≤j∧pNames l g acc d j=some res|.inr (c,j,L)=>False)
  (fun x=>match x with|.inl (g,acc,j)=>[(0,.sure,.ptr q 0),(3,.sure,.list (.own rt 0) 1 (acc.map ss))]|.inr _=>[])
  (fun x=>match x with|.inl (g,acc,j)=>[(q,.cells [LTk l,ii j,ii d,ii 0,ii a] 56),(rt,.tok acc.length)]|.inr _=>[])
  (fun x=>match x with|.inl (g,_,_)=>g|.inr _=>0) (.inl (f,[],i)) ⟨hi,Nat.zero_le _,h⟩ (by repeat' first|exact Sub.nil _|refine Sub.auto ?_) Subp.tk ?_
 clear h b1 T hi
 rintro (⟨g,acc,j⟩|⟨c,j,L⟩) hJ
 rotate_left
 ·exact hJ.elim
 dsimp only at hJ ⊢
 obtain ⟨hj,hla,h⟩:=hJ
 have ml:(acc.map ss).length=acc.length:=by simp
 cases g with
 |zero=>cases h
 |succ g=>
 unfold pNames at h
 unfold pName at h
 by_cases k1:(tk l j).kind=1
 rotate_left
 ·rw [if_neg k1] at h
  cases h
  have C:=rname_no q l j d a hj k1
  have c0:¬ (4:Int)=0:=by decide
  have hm:=hj
  have T:=rtake_er q l j d 4 (tk l j).pos (tc 44) hm c0
  have W:=rwant_er q l j d 4 (tk l j).pos (tc 41) hm c0
  unfold rs at *
  repeat' first|refine Ops.tag rfl ?_|(refine OpsT.go ?_;(conv=>arg 7;whnf))|(with_reducible first|refine Stp.notF ?_)|((with_reducible refine Stp.isEq ?_);first|refine Stp.eqT ?_)|refine Stp.pure rfl ?_|((with_reducible refine PutK.isSet ?_);refine PutK.st ?_)|refine PutK.mk' rfl ?_|refine Ops.nil ?_|((with_reducible refine Look.id ?_);refine Look.at ?_;try (conv=>arg 7;whnf))|((with_reducible refine Side.id ?_);first|refine Side.auto ?_)|((with_reducible refine Br.id ?_);first|(with_reducible first|refine br_true rfl ?_))|((with_reducible refine SemWp.id ?_);first|refine sem_seq ?_|refine sem_region rfl ?_|refine sem_cond rfl ?_|refine sem_block ?_|refine sem_exit ?_|refine sem_ret ?_|refine sem_skip ?_)|((with_reducible refine qThen.id ?_);first|refine qThen.go ?_)|((with_reducible refine hinBlock.id ?_);first|refine hinBlock.here rfl ?_|refine hinBlock.on rfl ?_)|((with_reducible refine hround.id ?_);first|refine hround.exit ?_)|refine Stp.valS ?_|refine Stp.look ?_|refine Stp.call ?_|refine Stp.eff ?_|((with_reducible refine CallWp.id ?_);first|(refine callA cx (C) ?_;(conv=>whnf))|(refine callA cx (T) ?_;(conv=>whnf))|(refine callA cx (W) ?_;(conv=>whnf)))|((with_reducible refine BodyR.id ?_);first|refine BodyR.ret ?_)|((with_reducible refine ResG.id ?_);first|refine ResG.tmp rfl ?_|refine ResG.nil ?_)
  refine Fin.mk ⟨acc ++ [noS],trivial,by show WeakerE _ (HEnd.ret (.list .no 1 ((acc ++ [noS]).map ss)));rw [map_one];exact .ret (Weaker.tok _ _ _),Subp.tk⟩
 ·rw [if_pos k1] at h
  have h:(if isT l (j+1) (tc 44)=true then pNames l g (acc ++ [(tk l j).text]) d (j+1+1) else if isT l (j+1) (tc 41)=true then okR (acc ++ [(tk l j).text]) (j+1+1) else errR 4 (j+1) d)=some res:=h
  have hm:=wt.more j hj (by omega)
  have C:=rname_yes q l j d a wt hj k1
  have hjm:j≤j+1:=by omega
  generalize (tk l j).text=x at *
  generalize hmj:j+1=m at *
  have e1:=map_one acc ss x
  have e2:(acc ++ [x]).length=acc.length+1:=by simp
  cases b2:isT l m (tc 44) with
  |true=>
   rw [if_pos b2] at h
   have hm1:=wt.more m hm (isT_kind b2)
   have T:=rtake_yes q l m d a (tc 44) wt hm b2
   unfold rs at *
   repeat' first|refine Ops.tag rfl ?_|(refine OpsT.go ?_;(conv=>arg 7;whnf))|(with_reducible first|refine Stp.notT ?_)|((with_reducible refine Stp.isEq ?_);first|refine Stp.eqT ?_)|refine Stp.pure rfl ?_|((with_reducible refine PutK.isSet ?_);refine PutK.st ?_)|refine PutK.mk' rfl ?_|refine Ops.nil ?_|((with_reducible refine Look.id ?_);refine Look.at ?_;try (conv=>arg 7;whnf))|((with_reducible refine Side.id ?_);first|refine Side.auto ?_)|((with_reducible refine Br.id ?_);first|(with_reducible first|refine br_true rfl ?_|refine br_false rfl ?_))|((with_reducible refine SemWp.id ?_);first|refine sem_seq ?_|refine sem_region rfl ?_|refine sem_cond rfl ?_|refine sem_block ?_|refine sem_skip ?_)|((with_reducible refine qThen.id ?_);first|refine qThen.go ?_)|((with_reducible refine hinBlock.id ?_);first|refine hinBlock.go ?_)|((with_reducible refine hround.id ?_);first|refine hround.go ?_)|refine Stp.valS ?_|refine Stp.look ?_|refine Stp.call ?_|refine Stp.eff ?_|((with_reducible refine CallWp.id ?_);first|(refine callA cx (C) ?_;(conv=>whnf))|(refine callA cx (T) ?_;(conv=>whnf)))
   refine Fin.mk ⟨.inl (g,acc ++ [x],m+1),⟨hm1,by rw [e2];omega,h⟩,by show g < g+1;omega,Sub.cons rfl rfl (Sub.cons rfl (by rw [e1]) (Sub.nil _)),?_⟩
   dsimp only
   rw [e2]
   exact Subp.tk
  |false=>
   rw [if_neg (by rw [b2];exact Bool.false_ne_true)] at h
   have T:=rtake_no q l m d a (tc 44) hm b2
   cases b3:isT l m (tc 41) with
   |true=>
    rw [if_pos b3] at h
    cases h
    have W:=rwant_yes q l m d a (tc 41) wt hm b3
    unfold rs at *
    repeat' first|refine Ops.tag rfl ?_|(refine OpsT.go ?_;(conv=>arg 7;whnf))|(with_reducible first|refine Stp.notF ?_)|((with_reducible refine Stp.isEq ?_);first|refine Stp.eqT ?_)|refine Stp.pure rfl ?_|((with_reducible refine PutK.isSet ?_);refine PutK.st ?_)|refine PutK.mk' rfl ?_|refine Ops.nil ?_|((with_reducible refine Look.id ?_);refine Look.at ?_;try (conv=>arg 7;whnf))|((with_reducible refine Side.id ?_);first|refine Side.auto ?_)|((with_reducible refine Br.id ?_);first|(with_reducible first|refine br_true rfl ?_))|((with_reducible refine SemWp.id ?_);first|refine sem_seq ?_|refine sem_region rfl ?_|refine sem_cond rfl ?_|refine sem_block ?_|refine sem_exit ?_|refine sem_ret ?_|refine sem_skip ?_)|((with_reducible refine qThen.id ?_);first|refine qThen.go ?_)|((with_reducible refine hinBlock.id ?_);first|refine hinBlock.here rfl ?_|refine hinBlock.on rfl ?_)|((with_reducible refine hround.id ?_);first|refine hround.exit ?_)|refine Stp.valS ?_|refine Stp.look ?_|refine Stp.call ?_|refine Stp.eff ?_|((with_reducible refine CallWp.id ?_);first|(refine callA cx (C) ?_;(conv=>whnf))|(refine callA cx (T) ?_;(conv=>whnf))|(refine callA cx (W) ?_;(conv=>whnf)))|((with_reducible refine BodyR.id ?_);first|refine BodyR.ret ?_)|((with_reducible refine ResG.id ?_);first|refine ResG.tmp rfl ?_|refine ResG.nil ?_)
    refine Fin.mk ⟨by show WeakerE _ (HEnd.ret (.list .no 1 ((acc ++ [x]).map ss)));rw [e1];exact .ret (Weaker.tok _ _ _),Subp.tk⟩
   |false=>
    rw [if_neg (by rw [b3];exact Bool.false_ne_true)] at h
    cases h
    have W:=rwant_no q l m d a (tc 41) hm b3
    unfold rs at *
    repeat' first|refine Ops.tag rfl ?_|(refine OpsT.go ?_;(conv=>arg 7;whnf))|(with_reducible first|refine Stp.notF ?_)|((with_reducible refine Stp.isEq ?_);first|refine Stp.eqT ?_)|refine Stp.pure rfl ?_|((with_reducible refine PutK.isSet ?_);refine PutK.st ?_)|refine PutK.mk' rfl ?_|refine Ops.nil ?_|((with_reducible refine Look.id ?_);refine Look.at ?_;try (conv=>arg 7;whnf))|((with_reducible refine Side.id ?_);first|refine Side.auto ?_)|((with_reducible refine Br.id ?_);first|(with_reducible first|refine br_true rfl ?_))|((with_reducible refine SemWp.id ?_);first|refine sem_seq ?_|refine sem_region rfl ?_|refine sem_cond rfl ?_|refine sem_block ?_|refine sem_exit ?_|refine sem_ret ?_|refine sem_skip ?_)|((with_reducible refine qThen.id ?_);first|refine qThen.go ?_)|((with_reducible refine hinBlock.id ?_);first|refine hinBlock.here rfl ?_|refine hinBlock.on rfl ?_)|((with_reducible refine hround.id ?_);first|refine hround.exit ?_)|refine Stp.valS ?_|refine Stp.look ?_|refine Stp.call ?_|refine Stp.eff ?_|((with_reducible refine CallWp.id ?_);first|(refine callA cx (C) ?_;(conv=>whnf))|(refine callA cx (T) ?_;(conv=>whnf))|(refine callA cx (W) ?_;(conv=>whnf)))|((with_reducible refine BodyR.id ?_);first|refine BodyR.ret ?_)|((with_reducible refine ResG.id ?_);first|refine ResG.tmp rfl ?_|refine ResG.nil ?_)
    refine Fin.mk ⟨acc ++ [x],trivial,by show WeakerE _ (HEnd.ret (.list .no 1 ((acc ++ [x]).map ss)));rw [e1];exact .ret (Weaker.tok _ _ _),Subp.tk⟩
end Go.Proofs.Hk

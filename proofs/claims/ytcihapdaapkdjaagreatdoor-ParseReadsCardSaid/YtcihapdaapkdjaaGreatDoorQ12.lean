import Derived.Test.YtcihapdaapkdjaaGreatDoorQ8
import Derived.Test.YtcihapdaapkdjaaGreatDoorH41
set_option linter.unusedSimpArgs false
set_option linter.unusedVariables false
set_option maxRecDepth 4000
namespace Go.Proofs.Hk
open Go Go.Proofs
/-- The cells beside the reader while a call's arguments are read. -/
def aT (pp rb rt r:Nat) (n p:ByteArray) (acc:List (List ND)):HS:=[(pp,sC n p (ownA rt acc)),(rt,.tok acc.length),(rb,.cells [.ptr r 0] 45)]
def aFn (pp rb:Nat):HV:=.fn (.func 66) [] [.ptr pp 0,.ptr rb 0]
/-- Arguments, from before the bracket on. -/
def pAl (l:List Tk) (f:Nat) (d:Int) (i:Nat):Res' (List (List ND)):=bindR (pMust l (tc 40) d i) fun _ j=>pArgs0 l f d j
abbrev endA (l:List Tk) (r:Nat) (d:Int) (T:List (List ND)→HS) (res:Except (Int × Nat × Int) (List (List ND) × Nat)) (e:HEnd) (st:HS):Prop:=
 match res with
 |.ok (acc,j)=>WeakerE e (.ret (.tup []))∧Subp ((r,rd l j d 0)::T acc) st
 |.error (c,j,d')=>WeakerE e (.pan failV)∧∃ acc,Subp ((r,rd l j d' c)::T acc) st
set_option maxHeartbeats 4000000 in
theorem list_args (r pp rb rt:Nat) (l:List Tk) (wf:WfN l) (i:Nat) (d:Int) (hi:i < l.length) (h0:0≤d) (h1:d≤50) (n p:ByteArray) (ne:pp≠rb∧r≠rb∧r≠pp∧rt≠rb∧rt≠pp∧rt≠r) (f:Nat) (res) (h:pAl l f d i=some res) :
  HCalls cx.P 27 [.ptr r 0,aFn pp rb] ((r,rd l i d 0)::aT pp rb rt r n p []) (endA l r d (fun acc=>aT pp rb rt r n p acc) res):=by
 have PY:=fun i hi f x j h acc hl=>arg_yes r pp rb rt l wf i d hi h0 h1 f x j h n p acc ne hl
 have PN:=fun i hi f c j d' h acc=>arg_no r pp rb rt l wf i d hi h0 h1 f c j d' h n p acc ne
 have PF:=fun f i e j hi h=>pE_facts wf.toWfT f .expr d i e j hi h
 obtain ⟨n1,n2,n3,n4,n5,n6⟩:=ne
 have wl:=wf.len
 have wt:=wf.toWfT
 unfold pAl pMust at h
 unfold aT aFn sC ownA at *
 cases b1:isT l i (tc 40) with
 |false=>
  rw [b1] at h
  cases h
  have M:=must_no r l i d 0 (tc 40) hi b1
  unfold rd at *
  refine sem_calls' cx (fn:=Tryz.f27) rfl rfl rfl rfl ?_
  repeat' first|refine Ops.tag rfl ?_|(refine OpsT.go ?_;(conv=>arg 7;whnf))|refine Stp.pure rfl ?_|((with_reducible refine Side.id ?_);first|refine Side.auto ?_)|((with_reducible refine SemWp.id ?_);first|refine sem_seq ?_|refine sem_region rfl ?_)|refine Stp.call ?_|((with_reducible refine CallWp.id ?_);first|(refine callB cx (M) ?_;(conv=>whnf)))|((with_reducible refine BodyR.id ?_);first|refine BodyR.pan ?_)
  exact Fin.mk ⟨WeakerE.refl _,[],Subp.of_eq rfl⟩
 |true=>
  rw [b1] at h
  have h:pArgs0 l f d (i+1)=some res:=h
  have M:=must_yes r l i d 0 (tc 40) wt hi b1
  have hi1:=wf.more i hi (isT_kind b1)
  unfold pArgs0 at h
  cases b2:isT l (i+1) (tc 41) with
  |true=>
   rw [b2] at h
   cases h
   have Y:=may_yes r l (i+1) d 0 (tc 41) wt hi1 b2
   unfold rd at *
   refine sem_calls' cx (fn:=Tryz.f27) rfl rfl rfl rfl ?_
   repeat' first|refine Ops.tag rfl ?_|(refine OpsT.go ?_;(conv=>arg 7;whnf))|refine Stp.pure rfl ?_|refine PutK.mk' rfl ?_|refine Ops.nil ?_|((with_reducible refine Side.id ?_);first|refine Side.auto ?_)|((with_reducible refine Br.id ?_);first|(with_reducible first|refine br_true rfl ?_))|((with_reducible refine SemWp.id ?_);first|refine sem_seq ?_|refine sem_region rfl ?_|refine sem_cond rfl ?_|refine sem_ret ?_)|((with_reducible refine qThen.id ?_);first|refine qThen.go ?_|refine qThen.ret ?_)|refine Stp.call ?_|((with_reducible refine CallWp.id ?_);first|(refine callA cx (M) ?_;(conv=>whnf))|(refine callA cx (Y) ?_;(conv=>whnf)))|((with_reducible refine BodyR.id ?_);first|refine BodyR.ret ?_)|((with_reducible refine ResG.id ?_);first|refine ResG.nil ?_)
   exact Fin.mk ⟨WeakerE.refl _,Subp.of_eq rfl⟩
  |false=>
   rw [b2] at h
   have h:pArgs l f [] d (i+1)=some res:=h
   have Y:=may_no r l (i+1) d 0 (tc 41) hi1 b2
   cases f with
   |zero=>cases h
   |succ f=>
   have h:(bindR (pE l f .expr d (i+1)) fun e j=>if isT l j (tc 44)=true then pArgs l f ([] ++ [e.flat 0]) d (j+1) else if isT l j (tc 41)=true then okR ([] ++ [e.flat 0]) (j+1) else errR 4 j d)=some res:=h
   cases hb:pE l f .expr d (i+1) with
   |none=>rw [hb] at h;cases h
   |some r1=>
   rw [hb] at h
   cases r1 with
   |error x=>
    obtain ⟨c,j,d'⟩:=x
    cases h
    have C:=PN (i+1) hi1 f c j d' hb []
    clear PY PN PF hb
    unfold rd at *
    refine sem_calls' cx (fn:=Tryz.f27) rfl rfl rfl rfl ?_
    repeat' first|refine Ops.tag rfl ?_|(refine OpsT.go ?_;(conv=>arg 7;whnf))|refine Stp.pure rfl ?_|refine PutK.mk' rfl ?_|refine Ops.nil ?_|((with_reducible refine Side.id ?_);first|refine Side.auto ?_)|((with_reducible refine Br.id ?_);first|(with_reducible first|refine br_false rfl ?_))|((with_reducible refine SemWp.id ?_);first|refine sem_seq ?_|refine sem_region rfl ?_|refine sem_cond rfl ?_|refine sem_skip ?_)|((with_reducible refine qThen.id ?_);first|refine qThen.go ?_)|refine Stp.call ?_|((with_reducible refine CallWp.id ?_);first|(refine callA cx (M) ?_;(conv=>whnf))|(refine callA cx (Y) ?_;(conv=>whnf))|(refine callB cx (C) ?_;(conv=>whnf)))|((with_reducible refine BodyR.id ?_);first|refine BodyR.pan ?_)
    exact Fin.mk ⟨WeakerE.refl _,[],Subp.of_eq rfl⟩
   |ok x=>
    obtain ⟨x,j1⟩:=x
    have C:=PY (i+1) hi1 f x j1 hb [] (by simp)
    have F1:=PF f (i+1) x j1 hi1 hb
    have h:(if isT l j1 (tc 44)=true then pArgs l f ([] ++ [x.flat 0]) d (j1+1) else if isT l j1 (tc 41)=true then okR ([] ++ [x.flat 0]) (j1+1) else errR 4 j1 d)=some res:=h
    generalize x.flat 0=t0 at *
    have el:([]:List (List ND)).length+1=([] ++ [t0]:List (List ND)).length:=by simp
    rw [el] at C
    clear el hb
    unfold rd at *
    refine sem_calls' cx (fn:=Tryz.f27) rfl rfl rfl rfl ?_
    repeat' first|refine Ops.tag rfl ?_|(refine OpsT.go ?_;(conv=>arg 7;whnf))|refine Stp.pure rfl ?_|refine PutK.mk' rfl ?_|refine Ops.nil ?_|((with_reducible refine Side.id ?_);first|refine Side.auto ?_)|((with_reducible refine Br.id ?_);first|(with_reducible first|refine br_false rfl ?_))|((with_reducible refine SemWp.id ?_);first|refine sem_seq ?_|refine sem_region rfl ?_|refine sem_cond rfl ?_|refine sem_block ?_|refine sem_skip ?_)|((with_reducible refine qThen.id ?_);first|refine qThen.go ?_)|refine Stp.call ?_|((with_reducible refine CallWp.id ?_);first|(refine callA cx (M) ?_;(conv=>whnf))|(refine callA cx (Y) ?_;(conv=>whnf))|(refine callA cx (C) ?_;(conv=>whnf)))
    refine sem_loop4 cx (fun g acc j (_:Unit)=>j < l.length∧acc.length≤j∧(if isT l j (tc 44)=true then pArgs l g acc d (j+1) else if isT l j (tc 41)=true then okR acc (j+1) else errR 4 j d)=some res) (fun g acc j _=>[(0,.sure,.ptr r 0),(1,.sure,.fn (.func 66) [] [.ptr pp 0,.ptr rb 0])]) (fun g acc j _=>[(r,.cells [LTk l,ii j,ii d,ii 0] 47),(pp,.cells [ii 8,ss n,ss p,nilV,.list (.own rt 0) 1 (acc.map LNs),nilV,nilV] 41),(rt,.tok acc.length),(rb,.cells [.ptr r 0] 45)]) (fun g=>g) f ([] ++ [t0]) j1 () ⟨F1.1,by simp;omega,h⟩ (Sub.cons rfl rfl (Sub.cons rfl rfl (Sub.nil _))) Subp.tk ?_
    clear h C M Y hi1 b1 b2 F1
    rintro g acc j _ ⟨hj,hla,hp⟩
    cases b3:isT l j (tc 44) with
    |false=>
     rw [b3] at hp
     have Y:=may_no r l j d 0 (tc 44) hj b3
     have hp:(if isT l j (tc 41)=true then okR acc (j+1) else errR 4 j d)=some res:=hp
     cases b4:isT l j (tc 41) with
     |true=>
      rw [b4] at hp
      cases hp
      have M:=must_yes r l j d 0 (tc 41) wt hj b4
      clear PY PN PF
      unfold rd at *
      repeat' first|refine Ops.tag rfl ?_|(refine OpsT.go ?_;(conv=>arg 7;whnf))|refine Stp.pure rfl ?_|refine PutK.mk' rfl ?_|refine Ops.nil ?_|((with_reducible refine Side.id ?_);first|refine Side.auto ?_)|((with_reducible refine Br.id ?_);first|(with_reducible first|refine br_false rfl ?_))|((with_reducible refine SemWp.id ?_);first|refine sem_seq ?_|refine sem_region rfl ?_|refine sem_cond rfl ?_|refine sem_exit ?_)|((with_reducible refine qThen.id ?_);first|refine qThen.go ?_)|refine Stp.call ?_|((with_reducible refine CallWp.id ?_);first|(refine callA cx (Y) ?_;(conv=>whnf))|(refine callA cx (M) ?_;(conv=>whnf)))|((with_reducible refine BodyR.id ?_);first|refine BodyR.ret ?_|refine BodyR.go ?_)|((with_reducible refine ResG.id ?_);first|refine ResG.nil ?_)
      exact Fin.mk ⟨WeakerE.refl _,Subp.of_eq rfl⟩
     |false=>
      rw [b4] at hp
      cases hp
      have M:=must_no r l j d 0 (tc 41) hj b4
      clear PY PN PF
      unfold rd at *
      repeat' first|refine Ops.tag rfl ?_|(refine OpsT.go ?_;(conv=>arg 7;whnf))|refine Stp.pure rfl ?_|refine PutK.mk' rfl ?_|refine Ops.nil ?_|((with_reducible refine Side.id ?_);first|refine Side.auto ?_)|((with_reducible refine Br.id ?_);first|(with_reducible first|refine br_false rfl ?_))|((with_reducible refine SemWp.id ?_);first|refine sem_seq ?_|refine sem_region rfl ?_|refine sem_cond rfl ?_|refine sem_exit ?_)|((with_reducible refine qThen.id ?_);first|refine qThen.go ?_)|refine Stp.call ?_|((with_reducible refine CallWp.id ?_);first|(refine callA cx (Y) ?_;(conv=>whnf))|(refine callB cx (M) ?_;(conv=>whnf)))|((with_reducible refine BodyR.id ?_);first|refine BodyR.pan ?_)
      exact Fin.mk ⟨WeakerE.refl _,acc,Subp.of_eq rfl⟩
    |true=>
     rw [b3] at hp
     have Y:=may_yes r l j d 0 (tc 44) wt hj b3
     have hj1:=wf.more j hj (isT_kind b3)
     have hp:pArgs l g acc d (j+1)=some res:=hp
     cases g with
     |zero=>cases hp
     |succ g=>
     have hp:(bindR (pE l g .expr d (j+1)) fun e m=>if isT l m (tc 44)=true then pArgs l g (acc ++ [e.flat 0]) d (m+1) else if isT l m (tc 41)=true then okR (acc ++ [e.flat 0]) (m+1) else errR 4 m d)=some res:=hp
     cases hb:pE l g .expr d (j+1) with
     |none=>rw [hb] at hp;cases hp
     |some r1=>
     rw [hb] at hp
     cases r1 with
     |error x=>
      obtain ⟨c,m,d'⟩:=x
      cases hp
      have C:=PN (j+1) hj1 g c m d' hb acc
      clear PY PN PF hb
      unfold rd at *
      repeat' first|refine Ops.tag rfl ?_|(refine OpsT.go ?_;(conv=>arg 7;whnf))|refine Stp.pure rfl ?_|refine PutK.mk' rfl ?_|refine Ops.nil ?_|((with_reducible refine Side.id ?_);first|refine Side.auto ?_)|((with_reducible refine Br.id ?_);first|(with_reducible first|refine br_true rfl ?_))|((with_reducible refine SemWp.id ?_);first|refine sem_seq ?_|refine sem_region rfl ?_|refine sem_cond rfl ?_|refine sem_block ?_|refine sem_skip ?_)|((with_reducible refine qThen.id ?_);first|refine qThen.go ?_)|refine Stp.call ?_|((with_reducible refine CallWp.id ?_);first|(refine callA cx (Y) ?_;(conv=>whnf))|(refine callB cx (C) ?_;(conv=>whnf)))|((with_reducible refine BodyR.id ?_);first|refine BodyR.pan ?_)
      exact Fin.mk ⟨WeakerE.refl _,acc,Subp.of_eq rfl⟩
     |ok x=>
      obtain ⟨x,m1⟩:=x
      have C:=PY (j+1) hj1 g x m1 hb acc (by omega)
      have F1:=PF g (j+1) x m1 hj1 hb
      have hp:(if isT l m1 (tc 44)=true then pArgs l g (acc ++ [x.flat 0]) d (m1+1) else if isT l m1 (tc 41)=true then okR (acc ++ [x.flat 0]) (m1+1) else errR 4 m1 d)=some res:=hp
      generalize x.flat 0=t0 at *
      have el:acc.length+1=(acc ++ [t0]).length:=by simp
      rw [el] at C
      clear PY PN PF el hb
      unfold rd at *
      repeat' first|refine Ops.tag rfl ?_|(refine OpsT.go ?_;(conv=>arg 7;whnf))|refine Stp.pure rfl ?_|refine PutK.mk' rfl ?_|refine Ops.nil ?_|((with_reducible refine Side.id ?_);first|refine Side.auto ?_)|((with_reducible refine Br.id ?_);first|(with_reducible first|refine br_true rfl ?_))|((with_reducible refine SemWp.id ?_);first|refine sem_seq ?_|refine sem_region rfl ?_|refine sem_cond rfl ?_|refine sem_block ?_|refine sem_skip ?_)|((with_reducible refine qThen.id ?_);first|refine qThen.go ?_)|((with_reducible refine hinBlock.id ?_);first|refine hinBlock.go ?_)|((with_reducible refine hround.id ?_);first|refine hround.go ?_)|refine Stp.call ?_|((with_reducible refine CallWp.id ?_);first|(refine callA cx (Y) ?_;(conv=>whnf))|(refine callA cx (C) ?_;(conv=>whnf)))
      refine Fin.mk ⟨g,acc ++ [t0],m1,(),⟨F1.1,by simp;omega,hp⟩,by omega,Sub.cons rfl rfl (Sub.cons rfl rfl (Sub.nil _)),Subp.tk⟩
end Go.Proofs.Hk

set_option linter.unusedSimpArgs false
set_option linter.unusedVariables false
set_option maxRecDepth 4000
namespace Go.Proofs.Hk
open Go Go.Proofs
set_option maxHeartbeats 2000000 in
theorem callF_ok (r:Nat) (l:List Tk) (wf:WfN l) (i:Nat) (d:Int) (hi:i < l.length) (h0:0≤d) (h1:d≤50) (n p:ByteArray) (f:Nat) (a:List (List ND)) (j:Nat) (h:pAl l f d i=some (.ok (a,j))) :
  To 55 [.ptr r 0,ss n,ss p] [(r,rd l i d 0)] (.ret (encS7 8 n p [] a [] [])) [(r,rd l j d 0)]:=by
 have C:=fun (pp rb rt:Nat) (n1:pp≠rb) (n2:r≠rb) (n3:r≠pp) (n4:rt≠rb) (n5:rt≠pp) (n6:rt≠r)=>(HCalls.to (list_args r pp rb rt l wf i d hi h0 h1 n p ⟨n1,n2,n3,n4,n5,n6⟩ f _ h):To _ _ _ _ _)
 clear h
 unfold aT sC ownA aFn nilV rd at *
 dsimp only [List.map_nil,List.length_nil] at C
 refine HCalls.to (sem_calls' cx (fn:=Tryz.f55) rfl rfl rfl rfl ?_)
 repeat' first|(refine sem_cellOwn cx _ 1 [ii 8,ss n,ss p,.v (.slice none 0 0)] [.v (.slice none 0 0),.v (.slice none 0 0)] (by repeat first|exact HPick.hit|apply HPick.miss) ?_;intro rq hrq;simp only [keys,List.map_cons,List.map_nil,List.mem_cons,List.not_mem_nil,not_or,or_false,not_false_eq_true] at hrq;simp only [List.cons_append,List.nil_append])|refine Ops.tag rfl ?_|(refine OpsT.go ?_;(conv=>arg 7;whnf))|refine Stp.pure rfl ?_|((with_reducible refine PutK.isSet ?_);refine PutK.set (by repeat first|exact HsetIs.hit|apply HsetIs.miss (by first|omega)) ?_)|refine PutK.mk' rfl ?_|refine Ops.nil ?_|((with_reducible refine Look.id ?_);refine Look.auto ?_ (by repeat first|exact HGet.hit|apply HGet.miss (by first|omega));try (conv=>arg 7;whnf))|((with_reducible refine Side.id ?_);first|refine Side.auto ?_)|((with_reducible refine SemWp.id ?_);first|refine sem_seq ?_|refine sem_region rfl ?_|refine sem_ret ?_)|((with_reducible refine qThen.id ?_);first|refine qThen.go ?_)|refine Stp.valS ?_|refine Stp.look ?_|refine Stp.call ?_|refine Stp.eff ?_|((with_reducible refine CallWp.id ?_);first|(refine callA cx (C _ _ rq (by omega) (by omega) (by omega) (by omega) (by omega) (by omega)) ?_;(conv=>whnf)))|(refine newN (fun r hr=>?_);simp only [keys,List.nil_append,List.cons_append,List.map_cons,List.map_nil,List.mem_cons,List.not_mem_nil,not_or,or_false,not_false_eq_true] at hr)|((with_reducible refine BodyR.id ?_);first|refine BodyR.ret ?_)|((with_reducible refine ResG.id ?_);first|refine ResG.cell rfl ?_|refine ResG.nil ?_)|((with_reducible refine LoadIs.id ?_);first|refine LoadIs.agg (by repeat first|exact HGet.hit|apply HGet.miss (by first|omega)) rfl rfl rfl ?_)|((with_reducible refine Upd.id ?_);first|(refine Upd.lit rfl ?_;(conv=>whnf)))
 refine Fin.mk ?_
 refine ⟨(by refine WeakerE.ret (Weaker.agg ?_);(repeat first|exact WeakerC.nil|refine WeakerC.cons ?_ rfl ?_|exact Weaker.refl _|exact Weaker.nil _|exact Weaker.tok _ _ _)),Subp.tk⟩
theorem callF_er (r:Nat) (l:List Tk) (wf:WfN l) (i:Nat) (d:Int) (hi:i < l.length) (h0:0≤d) (h1:d≤50) (n p:ByteArray) (f:Nat) (c:Int) (j:Nat) (d':Int) (h:pAl l f d i=some (.error (c,j,d'))) :
  To 55 [.ptr r 0,ss n,ss p] [(r,rd l i d 0)] (.pan failV) [(r,rd l j d' c)]:=by
 have C:=fun (pp rb rt:Nat) (n1:pp≠rb) (n2:r≠rb) (n3:r≠pp) (n4:rt≠rb) (n5:rt≠pp) (n6:rt≠r)=>(HCalls.to (HCalls.weaken (list_args r pp rb rt l wf i d hi h0 h1 n p ⟨n1,n2,n3,n4,n5,n6⟩ f _ h) (R':=fun e st=>WeakerE e (.pan failV)∧Subp [(r,rd l j d' c)] st) fun e st g=>by
  obtain ⟨g1,acc,g2⟩:=g
  exact ⟨e,_,WeakerE.refl _,g2,g1,Subp.take (HTake.cons HPick.hit HTake.nil)⟩):To _ _ _ (.pan failV) [(r,rd l j d' c)])
 clear h
 unfold aT sC ownA aFn nilV rd at *
 dsimp only [List.map_nil,List.length_nil] at C
 refine HCalls.to (sem_calls' cx (fn:=Tryz.f55) rfl rfl rfl rfl ?_)
 repeat' first|(refine sem_cellOwn cx _ 1 [ii 8,ss n,ss p,.v (.slice none 0 0)] [.v (.slice none 0 0),.v (.slice none 0 0)] (by repeat first|exact HPick.hit|apply HPick.miss) ?_;intro rq hrq;simp only [keys,List.map_cons,List.map_nil,List.mem_cons,List.not_mem_nil,not_or,or_false,not_false_eq_true] at hrq;simp only [List.cons_append,List.nil_append])|refine Ops.tag rfl ?_|(refine OpsT.go ?_;(conv=>arg 7;whnf))|refine Stp.pure rfl ?_|((with_reducible refine PutK.isSet ?_);refine PutK.st ?_)|refine PutK.mk' rfl ?_|refine Ops.nil ?_|((with_reducible refine Look.id ?_);refine Look.auto ?_ (by repeat first|exact HGet.hit|apply HGet.miss (by first|omega));try (conv=>arg 7;whnf))|((with_reducible refine Side.id ?_);first|refine Side.auto ?_)|((with_reducible refine SemWp.id ?_);first|refine sem_seq ?_|refine sem_region rfl ?_)|((with_reducible refine qThen.id ?_);first|refine qThen.go ?_)|refine Stp.valS ?_|refine Stp.look ?_|refine Stp.call ?_|refine Stp.eff ?_|((with_reducible refine CallWp.id ?_);first|(refine callB cx (C _ _ rq (by omega) (by omega) (by omega) (by omega) (by omega) (by omega)) ?_;(conv=>whnf)))|(refine newN (fun r hr=>?_);simp only [keys,List.nil_append,List.cons_append,List.map_cons,List.map_nil,List.mem_cons,List.not_mem_nil,not_or,or_false,not_false_eq_true] at hr)|((with_reducible refine BodyR.id ?_);first|refine BodyR.pan ?_)|((with_reducible refine Upd.id ?_);first|(refine Upd.lit rfl ?_;(conv=>whnf)))
 refine Fin.mk ?_
 refine ⟨WeakerE.refl _,Subp.tk⟩
/-- A statement's value. -/
def stV (k:Int) (n p:ByteArray) (e a b el:HV):HV:=.agg [ii k,ss n,ss p,e,a,b,el]
theorem ended_ok (r:Nat) (l:List Tk) (wf:WfT l) (i:Nat) (d:Int) (hi:i < l.length) (h:isT l i (tc 59)=true) (k:Int) (n p:ByteArray) (e a b el:HV) (hk:e.kd = .one∧a.kd = .one∧b.kd = .one∧el.kd = .one) :
  To 49 [.ptr r 0,stV k n p e a b el] [(r,rd l i d 0)] (.ret (stV k n p e a b el)) [(r,rd l (i+1:Nat) d 0)]:=by
 have M:=must_yes r l i d 0 (tc 59) wf hi h
 obtain ⟨k1,k2,k3,k4⟩:=hk
 unfold stV rd at *
 refine HCalls.to (sem_calls' cx (fn:=Tryz.f49) rfl rfl rfl rfl ?_)
 repeat' first|refine Ops.tag rfl ?_|(refine OpsT.go ?_;(conv=>arg 7;whnf))|refine Stp.pure rfl ?_|((with_reducible refine PutK.isSet ?_);refine PutK.set (by repeat first|exact HsetIs.hit|apply HsetIs.miss (by first|omega)) ?_)|refine PutK.mk' rfl ?_|refine Ops.nil ?_|((with_reducible refine Look.id ?_);refine Look.auto ?_ (by repeat first|exact HGet.hit|apply HGet.miss (by first|(apply Ne.symm;assumption)|omega));try (conv=>arg 7;whnf))|((with_reducible refine Side.id ?_);first|refine Side.auto ?_)|((with_reducible refine SemWp.id ?_);first|refine sem_seq ?_|refine sem_region rfl ?_|refine sem_ret ?_)|((with_reducible refine qThen.id ?_);first|refine qThen.go ?_)|refine Stp.look ?_|refine Stp.call ?_|refine Stp.eff ?_|((with_reducible refine CallWp.id ?_);first|(refine callA cx (M) ?_;(conv=>whnf)))|(refine newN (fun r hr=>?_);simp only [keys,List.nil_append,List.cons_append,List.map_cons,List.map_nil,List.mem_cons,List.not_mem_nil,not_or,or_false,not_false_eq_true] at hr)|((with_reducible refine BodyR.id ?_);first|refine BodyR.ret ?_)|((with_reducible refine ResG.id ?_);first|refine ResG.cell rfl ?_|refine ResG.nil ?_)|((with_reducible refine LoadIs.id ?_);first|refine LoadIs.agg (by repeat first|exact HGet.hit|apply HGet.miss (by first|omega)) rfl rfl rfl ?_)|((with_reducible refine Upd.id ?_);first|(refine Upd.lit rfl ?_;(conv=>whnf)))
 refine Fin.mk ?_
 refine ⟨WeakerE.refl _,Subp.tk⟩
theorem ended_no (r:Nat) (l:List Tk) (i:Nat) (d:Int) (hi:i < l.length) (h:isT l i (tc 59)=false) (k:Int) (n p:ByteArray) (e a b el:HV) (hk:e.kd = .one∧a.kd = .one∧b.kd = .one∧el.kd = .one) :
  To 49 [.ptr r 0,stV k n p e a b el] [(r,rd l i d 0)] (.pan failV) [(r,rd l i d 4)]:=by
 have M:=must_no r l i d 0 (tc 59) hi h
 obtain ⟨k1,k2,k3,k4⟩:=hk
 unfold stV rd at *
 refine HCalls.to (sem_calls' cx (fn:=Tryz.f49) rfl rfl rfl rfl ?_)
 repeat' first|refine Ops.tag rfl ?_|(refine OpsT.go ?_;(conv=>arg 7;whnf))|refine Stp.pure rfl ?_|refine PutK.mk' rfl ?_|refine Ops.nil ?_|((with_reducible refine Side.id ?_);first|refine Side.auto ?_)|((with_reducible refine SemWp.id ?_);first|refine sem_seq ?_|refine sem_region rfl ?_)|((with_reducible refine qThen.id ?_);first|refine qThen.go ?_)|refine Stp.call ?_|refine Stp.eff ?_|((with_reducible refine CallWp.id ?_);first|(refine callB cx (M) ?_;(conv=>whnf)))|(refine newN (fun r hr=>?_);simp only [keys,List.nil_append,List.cons_append,List.map_cons,List.map_nil,List.mem_cons,List.not_mem_nil,not_or,or_false,not_false_eq_true] at hr)|((with_reducible refine BodyR.id ?_);first|refine BodyR.pan ?_)
 refine Fin.mk ?_
 refine ⟨WeakerE.refl _,Subp.tk⟩
end Go.Proofs.Hk

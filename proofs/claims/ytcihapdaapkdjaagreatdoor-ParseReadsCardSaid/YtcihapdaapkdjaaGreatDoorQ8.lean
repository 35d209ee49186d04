import Derived.Test.YtcihapdaapkdjaaGreatDoorQ7
import Derived.Test.YtcihapdaapkdjaaGreatDoorH41
import Derived.Test.YtcihapdaapkdjaaGreatDoorH30
set_option linter.unusedSimpArgs false
set_option linter.unusedVariables false
set_option maxRecDepth 4000
namespace Go.Proofs.Hk
open Go Go.Proofs
theorem allE (l:List Tk) (wf:WfN l):∀ n,AllE l n
 |0=>by
  constructor<;>(intro f hf r d i res hi h0 h1 h;cases Nat.le_zero.1 hf;simp [pE] at h)
 |n+1=>by
  have IH:=allE l wf n
  constructor
  ·intro f hf r d i res hi h0 h1 h
   rcases Nat.lt_or_ge n f with hlt|hge
   ·have:f=n+1:=by omega
    subst this
    exact unary_lvl l wf n IH r d h0 h1 i hi res h
   ·exact IH.unary f hge r d i res hi h0 h1 h
  ·intro f hf r d i res hi h0 h1 h
   rcases Nat.lt_or_ge n f with hlt|hge
   ·have:f=n+1:=by omega
    subst this
    exact term_lvl l wf.toWfT n IH.unary r d h0 h1 i hi res h
   ·exact IH.term f hge r d i res hi h0 h1 h
  ·intro f hf r d i res hi h0 h1 h
   rcases Nat.lt_or_ge n f with hlt|hge
   ·have:f=n+1:=by omega
    subst this
    exact expr_lvl l wf.toWfT n IH.term r d h0 h1 i hi res h
   ·exact IH.expr f hge r d i res hi h0 h1 h
  ·intro f hf r d i res hi h0 h1 h
   rcases Nat.lt_or_ge n f with hlt|hge
   ·have:f=n+1:=by omega
    subst this
    exact lit_lvl l wf n IH r d h0 h1 i hi res h
   ·exact IH.lit f hge r d i res hi h0 h1 h
  ·intro f hf r d i res hi h0 h1 h
   rcases Nat.lt_or_ge n f with hlt|hge
   ·have:f=n+1:=by omega
    subst this
    exact conj_lvl l wf.toWfT n IH.lit r d h0 h1 i hi res h
   ·exact IH.conj f hge r d i res hi h0 h1 h
  ·intro f hf r d i res hi h0 h1 h
   rcases Nat.lt_or_ge n f with hlt|hge
   ·have:f=n+1:=by omega
    subst this
    exact cond_lvl l wf.toWfT n IH.conj r d h0 h1 i hi res h
   ·exact IH.cond f hge r d i res hi h0 h1 h
end Go.Proofs.Hk

set_option linter.unusedSimpArgs false
set_option linter.unusedVariables false
set_option maxRecDepth 4000
namespace Go.Proofs.Hk
open Go Go.Proofs
/-- A procedure's cell while its names are read: the parameters are a row of one's own. -/
def pC (n:ByteArray) (ps:HV) (res:ByteArray) (vs body:HV):Res:=.cells [ss n,ps,ss res,vs,body] 37
def ownS (rt:Nat) (l:List ByteArray):HV:=.list (.own rt 0) 1 (l.map ss)
theorem param_yes (r pp rb rt:Nat) (l:List Tk) (wf:WfT l) (i:Nat) (d:Int) (hi:i < l.length) (h:(tk l i).kind=1) (n:ByteArray) (acc:List ByteArray) (res:ByteArray) (vs body:HV) (ne:pp≠rb∧r≠rb∧r≠pp∧rt≠rb∧rt≠pp∧rt≠r) (hl:acc.length≤100000) :
  To 28 [.ptr pp 0,.ptr rb 0] [(r,rd l i d 0),(pp,pC n (ownS rt acc) res vs body),(rt,.tok acc.length),(rb,.cells [.ptr r 0] 45)] (.ret (.tup [])) [(r,rd l (i+1:Nat) d 0),(pp,pC n (ownS rt (acc ++ [(tk l i).text])) res vs body),(rt,.tok (acc.length+1)),(rb,.cells [.ptr r 0] 45)]:=by
 obtain ⟨n1,n2,n3,n4,n5,n6⟩:=ne
 have ml:(acc.map ss).length=acc.length:=by simp
 have N:=name_yes r l i d 0 wf hi h
 have e:(acc ++ [(tk l i).text]).map ss=acc.map ss ++ [ss (tk l i).text]:=by simp
 unfold pC ownS rd at *
 rw [e]
 refine HCalls.to (sem_calls' cx (fn:=Tryz.f28) rfl rfl rfl rfl ?_)
 repeat' first|((with_reducible refine DrawReg.id ?_);refine draw2' cx [(r,_)] [(pp,_),(rt,_)] rfl [3] [1,5,7] [0,1,2,3,4,5,6,7] (by repeat first|exact HTake.nil|(apply HTake.cons;focus (repeat first|exact HPick.hit))) rfl (by decide +kernel) ?_)|(refine D2.quiet rfl rfl rfl rfl ?_;(conv=>arg 7;whnf))|(refine D2.one rfl rfl rfl rfl ?_;(conv=>arg 7;whnf))|(refine D2.two rfl rfl rfl rfl rfl ?_;(conv=>arg 7;whnf))|refine D2.nil rfl ?_|(refine TStp.callF rfl (N) ?_)|refine DStp.pure rfl ?_|refine PutD.mk' rfl ?_|((with_reducible refine Look.id ?_);refine Look.auto ?_ (by repeat first|exact HGet.hit|apply HGet.miss (by first|(apply Ne.symm;assumption)));try (conv=>arg 7;whnf))|((with_reducible refine Side.id ?_);first|refine Side.auto ?_)|((with_reducible refine SemWp.id ?_);first|refine sem_draw ?_)|refine DStp.valS ?_|refine DStp.look ?_|((with_reducible refine BodyR.id ?_);first|refine BodyR.ret ?_|refine BodyR.go ?_)|((with_reducible refine ResG.id ?_);first|refine ResG.nil ?_)|refine TStp.look ?_|refine TStp.val ?_|refine TStp.upd [(_,.cells _ _),(_,_)] rfl rfl (by repeat first|exact HsetIs.hit) ?_|refine TStp.app [(_,_),(_,.tok _)] (by repeat first|exact HsetIs.hit|apply HsetIs.miss (by first|(apply Ne.symm;assumption))) ?_
 refine Fin.mk ?_
 refine ⟨WeakerE.refl _,Subp.tk⟩
theorem param_no (r pp rb rt:Nat) (l:List Tk) (i:Nat) (d:Int) (hi:i < l.length) (h:¬ (tk l i).kind=1) (n:ByteArray) (acc:List ByteArray) (res:ByteArray) (vs body:HV) (ne:pp≠rb∧r≠rb∧r≠pp∧rt≠rb∧rt≠pp∧rt≠r) :
  To 28 [.ptr pp 0,.ptr rb 0] [(r,rd l i d 0),(pp,pC n (ownS rt acc) res vs body),(rt,.tok acc.length),(rb,.cells [.ptr r 0] 45)] (.pan failV) [(r,rd l i d 4),(pp,pC n (ownS rt acc) res vs body),(rt,.tok acc.length),(rb,.cells [.ptr r 0] 45)]:=by
 obtain ⟨n1,n2,n3,n4,n5,n6⟩:=ne
 have N:=name_no r l i d 0 hi h
 unfold pC ownS rd at *
 refine HCalls.to (sem_calls' cx (fn:=Tryz.f28) rfl rfl rfl rfl ?_)
 repeat' first|((with_reducible refine DrawReg.id ?_);refine drawPanC cx 3 [4,5,6,7] [0,1,2] [] (N) (by repeat first|exact HTake.nil|(apply HTake.cons;focus (repeat first|exact HPick.hit))) rfl (by decide +kernel) (by decide +kernel) rfl rfl ?_ ?_;rotate_left;(conv=>whnf);rotate_left)|(refine DOpsL.cons rfl rfl ?_;(conv=>arg 7;whnf))|(refine DOpsL.nil ⟨rfl,_,rfl,rfl⟩)|refine DStp.pure rfl ?_|((with_reducible refine Look.id ?_);refine Look.at ?_;try (conv=>arg 7;whnf))|((with_reducible refine Side.id ?_);first|refine Side.auto ?_)|((with_reducible refine SemWp.id ?_);first|refine sem_draw ?_)|refine DStp.valS ?_|refine DStp.look ?_|((with_reducible refine BodyR.id ?_);first|refine BodyR.pan ?_)
 refine Fin.mk ?_
 refine ⟨WeakerE.refl _,Subp.tk⟩
end Go.Proofs.Hk

set_option linter.unusedSimpArgs false
set_option linter.unusedVariables false
set_option maxRecDepth 4000
namespace Go.Proofs.Hk
open Go Go.Proofs
/-- The cells beside the reader while a procedure's parameters are read. -/
def pT (pp rb rt r:Nat) (n:ByteArray) (acc:List ByteArray) (res:ByteArray) (vs body:HV):HS:=[(pp,pC n (ownS rt acc) res vs body),(rt,.tok acc.length),(rb,.cells [.ptr r 0] 45)]
def pFn (pp rb:Nat):HV:=.fn (.func 28) [] [.ptr pp 0,.ptr rb 0]
/-- Names, from behind the bracket on. -/
def pNl (l:List Tk) (f:Nat) (d:Int) (i:Nat):Res' (List ByteArray):=bindR (pMust l (tc 40) d i) fun _ j=>pNames0 l f d j
abbrev endL (l:List Tk) (r:Nat) (d:Int) (T:List ByteArray→HS) (res:Except (Int × Nat × Int) (List ByteArray × Nat)) (e:HEnd) (st:HS):Prop:=
 match res with
 |.ok (acc,j)=>WeakerE e (.ret (.tup []))∧Subp ((r,rd l j d 0)::T acc) st
 |.error (c,j,d')=>WeakerE e (.pan failV)∧∃ acc,Subp ((r,rd l j d' c)::T acc) st
set_option maxHeartbeats 4000000 in
theorem list_names (r pp rb rt:Nat) (l:List Tk) (wf:WfT l) (i:Nat) (d:Int) (hi:i < l.length) (h0:0≤d) (n:ByteArray) (rs:ByteArray) (vs body:HV) (ne:pp≠rb∧r≠rb∧r≠pp∧rt≠rb∧rt≠pp∧rt≠r) (f:Nat) (res) (h:pNl l f d i=some res) :
  HCalls cx.P 27 [.ptr r 0,pFn pp rb] ((r,rd l i d 0)::pT pp rb rt r n [] rs vs body) (endL l r d (fun acc=>pT pp rb rt r n acc rs vs body) res):=by
 have PY:=fun i hi h acc hl=>param_yes r pp rb rt l wf i d hi h n acc rs vs body ne hl
 have PN:=fun i hi h acc=>param_no r pp rb rt l i d hi h n acc rs vs body ne
 obtain ⟨n1,n2,n3,n4,n5,n6⟩:=ne
 have wl:=wf.len
 unfold pNl pMust at h
 unfold pT pFn pC ownS at *
 cases b1:isT l i (tc 40) with
 |false=>
  rw [b1] at h
  cases h
  have M:=must_no r l i d 0 (tc 40) hi b1
  unfold rd at *
  refine sem_calls' cx (fn:=Tryz.f27) rfl rfl rfl rfl ?_
  repeat' first|refine Ops.tag rfl ?_|(refine OpsT.go ?_;(conv=>arg 7;whnf))|refine Stp.pure rfl ?_|((with_reducible refine Side.id ?_);first|refine Side.auto ?_)|((with_reducible refine SemWp.id ?_);first|refine sem_seq ?_|refine sem_region rfl ?_)|refine Stp.call ?_|((with_reducible refine CallWp.id ?_);first|(refine callB cx (M) ?_;(conv=>whnf)))|((with_reducible refine BodyR.id ?_);first|refine BodyR.pan ?_)
  exact Fin.mk ⟨WeakerE.refl _,[],Subp.of_eq rfl⟩
 |true=>
  rw [b1] at h
  have h:pNames0 l f d (i+1)=some res:=h
  have M:=must_yes r l i d 0 (tc 40) wf hi b1
  have hi1:=wf.more i hi (isT_kind b1)
  unfold pNames0 at h
  cases b2:isT l (i+1) (tc 41) with
  |true=>
   rw [b2] at h
   cases h
   have Y:=may_yes r l (i+1) d 0 (tc 41) wf hi1 b2
   unfold rd at *
   refine sem_calls' cx (fn:=Tryz.f27) rfl rfl rfl rfl ?_
   repeat' first|refine Ops.tag rfl ?_|(refine OpsT.go ?_;(conv=>arg 7;whnf))|refine Stp.pure rfl ?_|refine PutK.mk' rfl ?_|refine Ops.nil ?_|((with_reducible refine Side.id ?_);first|refine Side.auto ?_)|((with_reducible refine Br.id ?_);first|(with_reducible first|refine br_true rfl ?_))|((with_reducible refine SemWp.id ?_);first|refine sem_seq ?_|refine sem_region rfl ?_|refine sem_cond rfl ?_|refine sem_ret ?_)|((with_reducible refine qThen.id ?_);first|refine qThen.go ?_|refine qThen.ret ?_)|refine Stp.call ?_|((with_reducible refine CallWp.id ?_);first|(refine callA cx (M) ?_;(conv=>whnf))|(refine callA cx (Y) ?_;(conv=>whnf)))|((with_reducible refine BodyR.id ?_);first|refine BodyR.ret ?_)|((with_reducible refine ResG.id ?_);first|refine ResG.nil ?_)
   exact Fin.mk ⟨WeakerE.refl _,Subp.of_eq rfl⟩
  |false=>
   rw [b2] at h
   have h:pNames l f [] d (i+1)=some res:=h
   have Y:=may_no r l (i+1) d 0 (tc 41) hi1 b2
   cases f with
   |zero=>cases h
   |succ f=>
   have h:(bindR (pName l d (i+1)) fun e j=>if isT l j (tc 44)=true then pNames l f [e] d (j+1) else if isT l j (tc 41)=true then okR [e] (j+1) else errR 4 j d)=some res:=h
   unfold pName at h
   by_cases k1:(tk l (i+1)).kind=1
   rotate_left
   ·rw [if_neg k1] at h
    cases h
    have C:=PN (i+1) hi1 k1 []
    clear PY PN
    unfold rd at *
    refine sem_calls' cx (fn:=Tryz.f27) rfl rfl rfl rfl ?_
    repeat' first|refine Ops.tag rfl ?_|(refine OpsT.go ?_;(conv=>arg 7;whnf))|refine Stp.pure rfl ?_|refine PutK.mk' rfl ?_|refine Ops.nil ?_|((with_reducible refine Side.id ?_);first|refine Side.auto ?_)|((with_reducible refine Br.id ?_);first|(with_reducible first|refine br_false rfl ?_))|((with_reducible refine SemWp.id ?_);first|refine sem_seq ?_|refine sem_region rfl ?_|refine sem_cond rfl ?_|refine sem_skip ?_)|((with_reducible refine qThen.id ?_);first|refine qThen.go ?_)|refine Stp.call ?_|((with_reducible refine CallWp.id ?_);first|(refine callA cx (M) ?_;(conv=>whnf))|(refine callA cx (Y) ?_;(conv=>whnf))|(refine callB cx (C) ?_;(conv=>whnf)))|((with_reducible refine BodyR.id ?_);first|refine BodyR.pan ?_)
    exact Fin.mk ⟨WeakerE.refl _,[],Subp.of_eq rfl⟩
   ·rw [if_pos k1] at h
    have C:=PY (i+1) hi1 k1 [] (by simp)
    have hi2:=wf.more (i+1) hi1 (by omega)
    generalize (tk l (i+1)).text=t0 at *
    have el:([]:List ByteArray).length+1=([] ++ [t0]:List ByteArray).length:=by simp
    rw [el] at C
    clear el
    have h:(if isT l (i+2) (tc 44)=true then pNames l f ([] ++ [t0]) d (i+2+1) else if isT l (i+2) (tc 41)=true then okR ([] ++ [t0]) (i+2+1) else errR 4 (i+2) d)=some res:=h
    unfold rd at *
    refine sem_calls' cx (fn:=Tryz.f27) rfl rfl rfl rfl ?_
    repeat' first|refine Ops.tag rfl ?_|(refine OpsT.go ?_;(conv=>arg 7;whnf))|refine Stp.pure rfl ?_|refine PutK.mk' rfl ?_|refine Ops.nil ?_|((with_reducible refine Side.id ?_);first|refine Side.auto ?_)|((with_reducible refine Br.id ?_);first|(with_reducible first|refine br_false rfl ?_))|((with_reducible refine SemWp.id ?_);first|refine sem_seq ?_|refine sem_region rfl ?_|refine sem_cond rfl ?_|refine sem_block ?_|refine sem_skip ?_)|((with_reducible refine qThen.id ?_);first|refine qThen.go ?_)|refine Stp.call ?_|((with_reducible refine CallWp.id ?_);first|(refine callA cx (M) ?_;(conv=>whnf))|(refine callA cx (Y) ?_;(conv=>whnf))|(refine callA cx (C) ?_;(conv=>whnf)))
    refine sem_loop4 cx (fun g acc j (_:Unit)=>j < l.length∧acc.length≤j∧(if isT l j (tc 44)=true then pNames l g acc d (j+1) else if isT l j (tc 41)=true then okR acc (j+1) else errR 4 j d)=some res) (fun g acc j _=>[(0,.sure,.ptr r 0),(1,.sure,.fn (.func 28) [] [.ptr pp 0,.ptr rb 0])]) (fun g acc j _=>[(r,.cells [LTk l,ii j,ii d,ii 0] 47),(pp,.cells [ss n,.list (.own rt 0) 1 (acc.map ss),ss rs,vs,body] 37),(rt,.tok acc.length),(rb,.cells [.ptr r 0] 45)]) (fun g=>g) f ([] ++ [t0]) (i+2) () ⟨hi2,by simp,h⟩ (Sub.cons rfl rfl (Sub.cons rfl rfl (Sub.nil _))) Subp.tk ?_
    clear h C M Y hi1 hi2 b1 b2 k1
    rintro g acc j _ ⟨hj,hla,hp⟩
    cases b3:isT l j (tc 44) with
    |false=>
     rw [b3] at hp
     have Y:=may_no r l j d 0 (tc 44) hj b3
     have hp:(if isT l j (tc 41)=true then okR acc (j+1) else errR 4 j d)=some res:=hp
     cases b4:isT l j (tc 41) with
     |true=>
      rw [b4] at hp
      cases hp
      have M:=must_yes r l j d 0 (tc 41) wf hj b4
      clear PY PN
      unfold rd at *
      repeat' first|refine Ops.tag rfl ?_|(refine OpsT.go ?_;(conv=>arg 7;whnf))|refine Stp.pure rfl ?_|refine PutK.mk' rfl ?_|refine Ops.nil ?_|((with_reducible refine Side.id ?_);first|refine Side.auto ?_)|((with_reducible refine Br.id ?_);first|(with_reducible first|refine br_false rfl ?_))|((with_reducible refine SemWp.id ?_);first|refine sem_seq ?_|refine sem_region rfl ?_|refine sem_cond rfl ?_|refine sem_exit ?_)|((with_reducible refine qThen.id ?_);first|refine qThen.go ?_)|refine Stp.call ?_|((with_reducible refine CallWp.id ?_);first|(refine callA cx (Y) ?_;(conv=>whnf))|(refine callA cx (M) ?_;(conv=>whnf)))|((with_reducible refine BodyR.id ?_);first|refine BodyR.ret ?_|refine BodyR.go ?_)|((with_reducible refine ResG.id ?_);first|refine ResG.nil ?_)
      exact Fin.mk ⟨WeakerE.refl _,Subp.of_eq rfl⟩
     |false=>
      rw [b4] at hp
      cases hp
      have M:=must_no r l j d 0 (tc 41) hj b4
      clear PY PN
      unfold rd at *
      repeat' first|refine Ops.tag rfl ?_|(refine OpsT.go ?_;(conv=>arg 7;whnf))|refine Stp.pure rfl ?_|refine PutK.mk' rfl ?_|refine Ops.nil ?_|((with_reducible refine Side.id ?_);first|refine Side.auto ?_)|((with_reducible refine Br.id ?_);first|(with_reducible first|refine br_false rfl ?_))|((with_reducible refine SemWp.id ?_);first|refine sem_seq ?_|refine sem_region rfl ?_|refine sem_cond rfl ?_|refine sem_exit ?_)|((with_reducible refine qThen.id ?_);first|refine qThen.go ?_)|refine Stp.call ?_|((with_reducible refine CallWp.id ?_);first|(refine callA cx (Y) ?_;(conv=>whnf))|(refine callB cx (M) ?_;(conv=>whnf)))|((with_reducible refine BodyR.id ?_);first|refine BodyR.pan ?_)
      exact Fin.mk ⟨WeakerE.refl _,acc,Subp.of_eq rfl⟩
    |true=>
     rw [b3] at hp
     have Y:=may_yes r l j d 0 (tc 44) wf hj b3
     have hj1:=wf.more j hj (isT_kind b3)
     have hp:pNames l g acc d (j+1)=some res:=hp
     cases g with
     |zero=>cases hp
     |succ g=>
     have hp:(bindR (pName l d (j+1)) fun e m=>if isT l m (tc 44)=true then pNames l g (acc ++ [e]) d (m+1) else if isT l m (tc 41)=true then okR (acc ++ [e]) (m+1) else errR 4 m d)=some res:=hp
     unfold pName at hp
     by_cases k1:(tk l (j+1)).kind=1
     rotate_left
     ·rw [if_neg k1] at hp
      cases hp
      have C:=PN (j+1) hj1 k1 acc
      clear PY PN
      unfold rd at *
      repeat' first|refine Ops.tag rfl ?_|(refine OpsT.go ?_;(conv=>arg 7;whnf))|refine Stp.pure rfl ?_|refine PutK.mk' rfl ?_|refine Ops.nil ?_|((with_reducible refine Side.id ?_);first|refine Side.auto ?_)|((with_reducible refine Br.id ?_);first|(with_reducible first|refine br_true rfl ?_))|((with_reducible refine SemWp.id ?_);first|refine sem_seq ?_|refine sem_region rfl ?_|refine sem_cond rfl ?_|refine sem_block ?_|refine sem_skip ?_)|((with_reducible refine qThen.id ?_);first|refine qThen.go ?_)|refine Stp.call ?_|((with_reducible refine CallWp.id ?_);first|(refine callA cx (Y) ?_;(conv=>whnf))|(refine callB cx (C) ?_;(conv=>whnf)))|((with_reducible refine BodyR.id ?_);first|refine BodyR.pan ?_)
      exact Fin.mk ⟨WeakerE.refl _,acc,Subp.of_eq rfl⟩
     ·rw [if_pos k1] at hp
      have C:=PY (j+1) hj1 k1 acc (by omega)
      have hj2:=wf.more (j+1) hj1 (by omega)
      generalize (tk l (j+1)).text=t0 at *
      have el:acc.length+1=(acc ++ [t0]).length:=by simp
      rw [el] at C
      clear PY PN el
      unfold rd at *
      repeat' first|refine Ops.tag rfl ?_|(refine OpsT.go ?_;(conv=>arg 7;whnf))|refine Stp.pure rfl ?_|refine PutK.mk' rfl ?_|refine Ops.nil ?_|((with_reducible refine Side.id ?_);first|refine Side.auto ?_)|((with_reducible refine Br.id ?_);first|(with_reducible first|refine br_true rfl ?_))|((with_reducible refine SemWp.id ?_);first|refine sem_seq ?_|refine sem_region rfl ?_|refine sem_cond rfl ?_|refine sem_block ?_|refine sem_skip ?_)|((with_reducible refine qThen.id ?_);first|refine qThen.go ?_)|((with_reducible refine hinBlock.id ?_);first|refine hinBlock.go ?_)|((with_reducible refine hround.id ?_);first|refine hround.go ?_)|refine Stp.call ?_|((with_reducible refine CallWp.id ?_);first|(refine callA cx (Y) ?_;(conv=>whnf))|(refine callA cx (C) ?_;(conv=>whnf)))
      refine Fin.mk ⟨g,acc ++ [t0],j+2,(),⟨hj2,by simp;omega,hp⟩,by omega,Sub.cons rfl rfl (Sub.cons rfl rfl (Sub.nil _)),Subp.tk⟩
end Go.Proofs.Hk

set_option linter.unusedSimpArgs false
set_option linter.unusedVariables false
set_option maxRecDepth 4000
namespace Go.Proofs.Hk
open Go Go.Proofs
def nilV:HV:=.v (.slice none 0 0)
/-- A call's cell while its arguments are read. -/
def sC (n p:ByteArray) (av:HV):Res:=.cells [ii 8,ss n,ss p,nilV,av,nilV,nilV] 41
def ownA (rt:Nat) (l:List (List ND)):HV:=.list (.own rt 0) 1 (l.map LNs)
theorem arg_yes (r pp rb rt:Nat) (l:List Tk) (wf:WfN l) (i:Nat) (d:Int) (hi:i < l.length) (h0:0≤d) (h1:d≤50) (f:Nat) (x:Ex) (j:Nat) (h:pE l f .expr d i=some (.ok (x,j))) (n p:ByteArray) (acc:List (List ND)) (ne:pp≠rb∧r≠rb∧r≠pp∧rt≠rb∧rt≠pp∧rt≠r) (hl:acc.length≤100000) :
  To 66 [.ptr pp 0,.ptr rb 0] [(r,rd l i d 0),(pp,sC n p (ownA rt acc)),(rt,.tok acc.length),(rb,.cells [.ptr r 0] 45)] (.ret (.tup [])) [(r,rd l j d 0),(pp,sC n p (ownA rt (acc ++ [x.flat 0]))),(rt,.tok (acc.length+1)),(rb,.cells [.ptr r 0] 45)]:=by
 obtain ⟨n1,n2,n3,n4,n5,n6⟩:=ne
 have ml:(acc.map LNs).length=acc.length:=by simp
 have N:=ToOwn.weak ((allE l wf f).expr f (Nat.le_refl _) r d i _ hi h0 h1 h)
 have e:(acc ++ [x.flat 0]).map LNs=acc.map LNs ++ [.list .no 5 ((x.flat 0).map encN)]:=by simp [LNs]
 unfold sC ownA rd rdS rd at *
 rw [e]
 clear e h
 refine HCalls.to (sem_calls' cx (fn:=Tryz.f66) rfl rfl rfl rfl ?_)
 repeat' first|((with_reducible refine DrawReg.id ?_);refine draw2' cx [(r,_)] [(pp,_),(rt,_)] rfl [3] [1,5,7] [0,1,2,3,4,5,6,7] (by repeat first|exact HTake.nil|(apply HTake.cons;focus (repeat first|exact HPick.hit))) rfl (by decide +kernel) ?_)|(refine D2.quiet rfl rfl rfl rfl ?_;(conv=>arg 7;whnf))|(refine D2.one rfl rfl rfl rfl ?_;(conv=>arg 7;whnf))|(refine D2.two rfl rfl rfl rfl rfl ?_;(conv=>arg 7;whnf))|refine D2.nil rfl ?_|(refine TStp.callF rfl (N) ?_)|refine DStp.pure rfl ?_|refine PutD.mk' rfl ?_|((with_reducible refine Look.id ?_);refine Look.auto ?_ (by repeat first|exact HGet.hit|apply HGet.miss (by first|(apply Ne.symm;assumption)));try (conv=>arg 7;whnf))|((with_reducible refine Side.id ?_);first|refine Side.auto ?_)|((with_reducible refine SemWp.id ?_);first|refine sem_draw ?_)|refine DStp.valS ?_|refine DStp.look ?_|((with_reducible refine BodyR.id ?_);first|refine BodyR.ret ?_|refine BodyR.go ?_)|((with_reducible refine ResG.id ?_);first|refine ResG.nil ?_)|refine TStp.look ?_|refine TStp.val ?_|refine TStp.upd [(_,.cells _ _),(_,_)] rfl rfl (by repeat first|exact HsetIs.hit) ?_|refine TStp.app [(_,_),(_,.tok _)] (by repeat first|exact HsetIs.hit|apply HsetIs.miss (by first|(apply Ne.symm;assumption))) ?_
 refine Fin.mk ?_
 refine ⟨WeakerE.refl _,Subp.tk⟩
theorem arg_no (r pp rb rt:Nat) (l:List Tk) (wf:WfN l) (i:Nat) (d:Int) (hi:i < l.length) (h0:0≤d) (h1:d≤50) (f:Nat) (c:Int) (j:Nat) (d':Int) (h:pE l f .expr d i=some (.error (c,j,d'))) (n p:ByteArray) (acc:List (List ND)) (ne:pp≠rb∧r≠rb∧r≠pp∧rt≠rb∧rt≠pp∧rt≠r) :
  To 66 [.ptr pp 0,.ptr rb 0] [(r,rd l i d 0),(pp,sC n p (ownA rt acc)),(rt,.tok acc.length),(rb,.cells [.ptr r 0] 45)] (.pan failV) [(r,rd l j d' c),(pp,sC n p (ownA rt acc)),(rt,.tok acc.length),(rb,.cells [.ptr r 0] 45)]:=by
 obtain ⟨n1,n2,n3,n4,n5,n6⟩:=ne
 have N:To 56 [.ptr r 0] [(r,rd l i d 0)] (.pan failV) [(r,rd l j d' c)]:=(allE l wf f).expr f (Nat.le_refl _) r d i _ hi h0 h1 h
 unfold sC ownA rd at *
 clear h
 refine HCalls.to (sem_calls' cx (fn:=Tryz.f66) rfl rfl rfl rfl ?_)
 repeat' first|((with_reducible refine DrawReg.id ?_);refine drawPanC cx 3 [4,5,6,7] [0,1,2] [] (N) (by repeat first|exact HTake.nil|(apply HTake.cons;focus (repeat first|exact HPick.hit))) rfl (by decide +kernel) (by decide +kernel) rfl rfl ?_ ?_;rotate_left;(conv=>whnf);rotate_left)|(refine DOpsL.cons rfl rfl ?_;(conv=>arg 7;whnf))|(refine DOpsL.nil ⟨rfl,_,rfl,rfl⟩)|refine DStp.pure rfl ?_|((with_reducible refine Look.id ?_);refine Look.at ?_;try (conv=>arg 7;whnf))|((with_reducible refine Side.id ?_);first|refine Side.auto ?_)|((with_reducible refine SemWp.id ?_);first|refine sem_draw ?_)|refine DStp.valS ?_|refine DStp.look ?_|((with_reducible refine BodyR.id ?_);first|refine BodyR.pan ?_)
 refine Fin.mk ?_
 refine ⟨WeakerE.refl _,Subp.tk⟩
end Go.Proofs.Hk

import Derived.Test.YtcihapdaapkdjaaGreatDoorQ19a
import Derived.Test.YtcihapdaapkdjaaGreatDoorP10
import Derived.Test.YtcihapdaapkdjaaGreatDoorH41
set_option linter.unusedSimpArgs false
set_option linter.unusedVariables false
set_option maxRecDepth 4000
namespace Go.Proofs.Hk
open Go Go.Proofs
theorem Num_spec (e:Int):Pur cx 8 [ii e] (ii e):=by
 refine Pur.of (sem_calls' cx (fn:=Tryz.f8) rfl rfl rfl rfl ?_)
 repeat' first|refine Ops.tag rfl ?_|(refine OpsT.go ?_;(conv=>arg 7;whnf))|refine Stp.pure rfl ?_|refine Ops.nil ?_|((with_reducible refine SemWp.id ?_);first|refine sem_seq ?_|refine sem_region rfl ?_|refine sem_ret ?_)|((with_reducible refine qThen.id ?_);first|refine qThen.go ?_)|((with_reducible refine BodyR.id ?_);first|refine BodyR.ret ?_)|((with_reducible refine ResG.id ?_);first|refine ResG.tmp rfl ?_|refine ResG.nil ?_)
 exact Fin.mk rfl
def awakeT:ByteArray:=⟨#[112,114,111,99,32,109,32,40,32,41,32,123,32,120,32,61,32,49,32,43,32,50,32,59,32,125]⟩
theorem awake_prog:progR awakeT=([⟨⟨#[109]⟩,[],noS,[],[.mk 1 ⟨#[120]⟩ noS [⟨1,1,noS,-1,-1⟩,⟨1,2,noS,-1,-1⟩,⟨4,0,noS,0,1⟩] [] [] []]⟩],0,0):=by kernel_rfl
theorem awake_spec:Pur cx 4 [] (bb true):=by
 have P:=Prog_spec awakeT
 rw [awake_prog] at P
 unfold awakeT progV LPDs at P
 simp only [List.map_cons,List.map_nil] at P
 unfold encPD encPD' LSDs at P
 simp only [List.map_cons,List.map_nil] at P
 rw [encSDm] at P
 unfold LNs at P
 simp only [List.map_cons,List.map_nil] at P
 refine Pur.of (sem_calls' cx (fn:=Tryz.f4) rfl rfl rfl rfl ?_)
 repeat' first|refine Ops.tag rfl ?_|((with_reducible first|refine OpsT.yes ?_);(conv=>arg 7;whnf))|(refine OpsT.go ?_;(conv=>arg 7;whnf))|(with_reducible first|refine Stp.andT ?_)|((with_reducible refine Stp.isEq ?_);first|refine Stp.eqT ?_)|refine Stp.pure rfl ?_|((with_reducible refine PutK.isSet ?_);refine PutK.st ?_)|refine PutK.mk' rfl ?_|refine Ops.nil ?_|((with_reducible refine Look.id ?_);refine Look.at ?_;try (conv=>arg 7;whnf))|((with_reducible refine Side.id ?_);first|refine Side.auto ?_)|((with_reducible refine SemWp.id ?_);first|refine sem_seq ?_|refine sem_region rfl ?_|refine sem_ret ?_)|((with_reducible refine qThen.id ?_);first|refine qThen.go ?_)|refine Stp.valS ?_|refine Stp.valSC ?_|refine Stp.look ?_|refine Stp.call ?_|refine Stp.eff ?_|((with_reducible refine CallWp.id ?_);first|refine Pur.call (P) ?_|refine Pur.call (Num_spec _) ?_)|(refine newN (fun r hr=>?_);simp only [keys,List.nil_append,List.cons_append,List.map_cons,List.map_nil,List.mem_cons,List.not_mem_nil,not_or,or_false,not_false_eq_true] at hr)|((with_reducible refine BodyR.id ?_);first|refine BodyR.ret ?_)|((with_reducible refine ResG.id ?_);first|refine ResG.tmp rfl ?_|refine ResG.nil ?_)|((with_reducible refine Upd.id ?_);first|(refine Upd.lit rfl ?_;(conv=>whnf)))
 exact Fin.mk rfl
end Go.Proofs.Hk

set_option linter.unusedSimpArgs false
set_option linter.unusedVariables false
set_option maxRecDepth 4000
namespace Go.Proofs.Hk
open Go Go.Proofs
theorem strEq_refl (s:ByteArray):strEq s s=true:=strEq_eq.2 rfl
theorem getD_map {α:Type} {l:List α} {f:α→HV} {i:Nat} (h:i < l.length):(l.map f).getD (i:Int).toNat default=f l[i]:=by
 simp [List.getD_eq_getElem?_getD,h]
theorem nodes_refl (l:List ND) (hl:l.length≤100000):Pur cx 40 [LNs l,LNs l] (bb true):=by
 have m:(l.map encN).length=l.length:=by simp
 unfold LNs
 refine Pur.of (sem_calls' cx (fn:=Tryz.f40) rfl rfl rfl rfl ?_)
 repeat' first|refine Ops.tag rfl ?_|(refine OpsT.go ?_;(conv=>arg 7;whnf))|((with_reducible refine Stp.isNe ?_);first|refine Stp.neF ?_)|refine Stp.pure rfl ?_|refine Ops.nil ?_|((with_reducible refine Br.id ?_);first|(with_reducible first|refine br_false rfl ?_))|((with_reducible refine SemWp.id ?_);first|refine sem_seq ?_|refine sem_region rfl ?_|refine sem_cond rfl ?_|refine sem_block ?_|refine sem_skip ?_)|((with_reducible refine qThen.id ?_);first|refine qThen.go ?_)
 refine sem_loop cx (ι:=Nat) (fun i=>i≤l.length) (fun i=>[(0,.sure,.list .no 5 (l.map encN)),(1,.sure,.list .no 5 (l.map encN)),(5,.sure,ii i)]) (fun _=>[]) (fun i=>l.length - i) 0 (Nat.zero_le _) (by repeat' first|exact Sub.nil _|refine Sub.auto ?_) (Subp.of_eq rfl) ?_
 intro i i1
 by_cases hi:i < l.length
 ·have g1:=getD_map (f:=encN) hi
  generalize l[i]=x at *
  obtain ⟨k,n,s,a,b⟩:=x
  have g1:(l.map encN).getD (i:Int).toNat default = .agg [ii k,ii n,ss s,ii a,ii b]:=g1
  have e:(!(k == k && (n == n && (strEq s s && (a == a && (b == b && true))))))=false:=by simp [strEq_refl]
  repeat' first|(with_reducible first|refine DStp.rwB (e) ?_)|refine Ops.tag rfl ?_|(refine OpsT.go ?_;(conv=>arg 7;whnf))|((with_reducible refine Stp.isSum ?_);refine Stp.sum ?_)|((with_reducible refine Stp.isDec ?_);first|refine Stp.decT ?_)|refine Stp.pure rfl ?_|refine Ops.nil ?_|(refine DOps.cons rfl rfl ?_;(conv=>arg 7;whnf))|refine DStp.pure rfl ?_|refine DOps.nil rfl ?_|((with_reducible refine Side.id ?_);first|refine Side.auto ?_)|((with_reducible refine Br.id ?_);first|(with_reducible first|refine br_true rfl ?_|refine br_false rfl ?_))|((with_reducible refine SemWp.id ?_);first|refine sem_seq ?_|refine sem_region rfl ?_|refine sem_cond rfl ?_|refine sem_block ?_|refine sem_skip ?_|refine sem_draw ?_)|((with_reducible refine qThen.id ?_);first|refine qThen.go ?_)|((with_reducible refine hinBlock.id ?_);first|refine hinBlock.go ?_)|((with_reducible refine hround.id ?_);first|refine hround.go ?_)|refine DStp.valS ?_|((with_reducible refine DrawReg.id ?_);refine drawQ' cx (by decide +kernel) rfl ?_)|rw [g1]
  exact Fin.mk ⟨i+1,by omega,by omega,by repeat' first|exact Sub.nil _|refine Sub.auto ?_,Subp.of_eq rfl⟩
 ·have:i=l.length:=by omega
  subst this
  repeat' first|refine Ops.tag rfl ?_|(refine OpsT.go ?_;(conv=>arg 7;whnf))|((with_reducible refine Stp.isDec ?_);first|refine Stp.decF ?_)|refine Stp.pure rfl ?_|refine Ops.nil ?_|((with_reducible refine Br.id ?_);first|(with_reducible first|refine br_false rfl ?_))|((with_reducible refine SemWp.id ?_);first|refine sem_seq ?_|refine sem_region rfl ?_|refine sem_cond rfl ?_|refine sem_exit ?_|refine sem_ret ?_)|((with_reducible refine qThen.id ?_);first|refine qThen.go ?_)|((with_reducible refine BodyR.id ?_);first|refine BodyR.ret ?_)|((with_reducible refine ResG.id ?_);first|refine ResG.tmp rfl ?_|refine ResG.nil ?_)
  exact Fin.mk rfl
theorem Texts_refl (l:List ByteArray) (hl:l.length≤100000):Pur cx 15 [LSs' l,LSs' l] (bb true):=by
 have m:(l.map ss).length=l.length:=by simp
 unfold LSs'
 refine Pur.of (sem_calls' cx (fn:=Tryz.f15) rfl rfl rfl rfl ?_)
 repeat' first|refine Ops.tag rfl ?_|(refine OpsT.go ?_;(conv=>arg 7;whnf))|((with_reducible refine Stp.isNe ?_);first|refine Stp.neF ?_)|refine Stp.pure rfl ?_|refine Ops.nil ?_|((with_reducible refine Br.id ?_);first|(with_reducible first|refine br_false rfl ?_))|((with_reducible refine SemWp.id ?_);first|refine sem_seq ?_|refine sem_region rfl ?_|refine sem_cond rfl ?_|refine sem_block ?_|refine sem_skip ?_)|((with_reducible refine qThen.id ?_);first|refine qThen.go ?_)
 refine sem_loop cx (ι:=Nat) (fun i=>i≤l.length) (fun i=>[(0,.sure,.list .no 1 (l.map ss)),(1,.sure,.list .no 1 (l.map ss)),(5,.sure,ii i)]) (fun _=>[]) (fun i=>l.length - i) 0 (Nat.zero_le _) (by repeat' first|exact Sub.nil _|refine Sub.auto ?_) (Subp.of_eq rfl) ?_
 intro i i1
 by_cases hi:i < l.length
 ·have g1:=getD_map (f:=ss) hi
  generalize l[i]=x at *
  have e:(!strEq x x)=false:=by simp [strEq_refl]
  repeat' first|(with_reducible first|refine DStp.rwB (e) ?_)|refine Ops.tag rfl ?_|(refine OpsT.go ?_;(conv=>arg 7;whnf))|((with_reducible refine Stp.isSum ?_);refine Stp.sum ?_)|((with_reducible refine Stp.isDec ?_);first|refine Stp.decT ?_)|refine Stp.pure rfl ?_|refine Ops.nil ?_|(refine DOps.cons rfl rfl ?_;(conv=>arg 7;whnf))|refine DStp.pure rfl ?_|refine DOps.nil rfl ?_|((with_reducible refine Side.id ?_);first|refine Side.auto ?_)|((with_reducible refine Br.id ?_);first|(with_reducible first|refine br_true rfl ?_|refine br_false rfl ?_))|((with_reducible refine SemWp.id ?_);first|refine sem_seq ?_|refine sem_region rfl ?_|refine sem_cond rfl ?_|refine sem_block ?_|refine sem_skip ?_|refine sem_draw ?_)|((with_reducible refine qThen.id ?_);first|refine qThen.go ?_)|((with_reducible refine hinBlock.id ?_);first|refine hinBlock.go ?_)|((with_reducible refine hround.id ?_);first|refine hround.go ?_)|refine DStp.valS ?_|((with_reducible refine DrawReg.id ?_);refine drawQ' cx (by decide +kernel) rfl ?_)|rw [g1]
  exact Fin.mk ⟨i+1,by omega,by omega,by repeat' first|exact Sub.nil _|refine Sub.auto ?_,Subp.of_eq rfl⟩
 ·have:i=l.length:=by omega
  subst this
  repeat' first|refine Ops.tag rfl ?_|(refine OpsT.go ?_;(conv=>arg 7;whnf))|((with_reducible refine Stp.isDec ?_);first|refine Stp.decF ?_)|refine Stp.pure rfl ?_|refine Ops.nil ?_|((with_reducible refine Br.id ?_);first|(with_reducible first|refine br_false rfl ?_))|((with_reducible refine SemWp.id ?_);first|refine sem_seq ?_|refine sem_region rfl ?_|refine sem_cond rfl ?_|refine sem_exit ?_|refine sem_ret ?_)|((with_reducible refine qThen.id ?_);first|refine qThen.go ?_)|((with_reducible refine BodyR.id ?_);first|refine BodyR.ret ?_)|((with_reducible refine ResG.id ?_);first|refine ResG.tmp rfl ?_|refine ResG.nil ?_)
  exact Fin.mk rfl
mutual
def szS:SD→Nat
 |.mk _ _ _ _ _ b el=>1+szL b+szL el
def szL:List SD→Nat
 |[]=>0
 |s::l=>szS s+szL l
end
theorem szL_mem:∀ {l:List SD} {s:SD},s∈l→szS s≤szL l
 |x::l,s,h=>by
  simp only [szL]
  rcases List.mem_cons.1 h with rfl|h
  ·omega
  ·have:=szL_mem h;omega
set_option maxHeartbeats 8000000 in
theorem same_refl:∀ (n:Nat) (l:List SD),szL l≤n→l.length≤8193→smL l→Pur cx 16 [LSDs l,LSDs l] (bb true):=by
 intro n
 induction n with
 |zero=>
  intro l hn hl _
  cases l with
  |cons s l=>cases s;simp [szL,szS] at hn
  |nil=>
  unfold LSDs
  refine Pur.of (sem_calls' cx (fn:=Tryz.f16) rfl rfl rfl rfl ?_)
  repeat' first|refine Ops.tag rfl ?_|(refine OpsT.go ?_;(conv=>arg 7;whnf))|((with_reducible refine Stp.isNe ?_);first|refine Stp.neF ?_)|refine Stp.pure rfl ?_|refine Ops.nil ?_|((with_reducible refine Br.id ?_);first|(with_reducible first|refine br_false rfl ?_))|((with_reducible refine SemWp.id ?_);first|refine sem_seq ?_|refine sem_region rfl ?_|refine sem_cond rfl ?_|refine sem_block ?_|refine sem_skip ?_)|((with_reducible refine qThen.id ?_);first|refine qThen.go ?_)
  refine sem_loop cx (ι:=Nat) (fun i=>i=0) (fun i=>[(0,.sure,.list .no 7 []),(1,.sure,.list .no 7 []),(5,.sure,ii i)]) (fun _=>[]) (fun i=>0) 0 rfl (by repeat' first|exact Sub.nil _|refine Sub.auto ?_) (Subp.of_eq rfl) ?_
  rintro i rfl
  repeat' first|refine Ops.tag rfl ?_|(refine OpsT.go ?_;(conv=>arg 7;whnf))|refine Stp.pure rfl ?_|refine Ops.nil ?_|((with_reducible refine Br.id ?_);first|(with_reducible first|refine br_false rfl ?_))|((with_reducible refine SemWp.id ?_);first|refine sem_seq ?_|refine sem_region rfl ?_|refine sem_cond rfl ?_|refine sem_exit ?_|refine sem_ret ?_)|((with_reducible refine qThen.id ?_);first|refine qThen.go ?_)|((with_reducible refine BodyR.id ?_);first|refine BodyR.ret ?_)|((with_reducible refine ResG.id ?_);first|refine ResG.tmp rfl ?_|refine ResG.nil ?_)
  exact Fin.mk rfl
 |succ n ih=>
  intro l hn hl hs
  have m:(l.map encSD).length=l.length:=by simp
  unfold LSDs
  refine Pur.of (sem_calls' cx (fn:=Tryz.f16) rfl rfl rfl rfl ?_)
  repeat' first|refine Ops.tag rfl ?_|(refine OpsT.go ?_;(conv=>arg 7;whnf))|((with_reducible refine Stp.isNe ?_);first|refine Stp.neF ?_)|refine Stp.pure rfl ?_|refine Ops.nil ?_|((with_reducible refine Br.id ?_);first|(with_reducible first|refine br_false rfl ?_))|((with_reducible refine SemWp.id ?_);first|refine sem_seq ?_|refine sem_region rfl ?_|refine sem_cond rfl ?_|refine sem_block ?_|refine sem_skip ?_)|((with_reducible refine qThen.id ?_);first|refine qThen.go ?_)
  refine sem_loop cx (ι:=Nat) (fun i=>i≤l.length) (fun i=>[(0,.sure,.list .no 7 (l.map encSD)),(1,.sure,.list .no 7 (l.map encSD)),(5,.sure,ii i)]) (fun _=>[]) (fun i=>l.length - i) 0 (Nat.zero_le _) (by repeat' first|exact Sub.nil _|refine Sub.auto ?_) (Subp.of_eq rfl) ?_
  intro i i1
  by_cases hi:i < l.length
  ·have g1:=getD_map (f:=encSD) hi
   have hm:=List.getElem_mem hi
   have h1:=szL_mem hm
   have h2:=smL_all.1 hs _ hm
   generalize l[i]=x at *
   obtain ⟨k,nm,p,e,a,b,el⟩:=x
   simp only [szS] at h1
   simp only [smS] at h2
   obtain ⟨s1,⟨s2,s3⟩,⟨s4,s5⟩,s6,s7⟩:=h2
   rw [encSDm] at g1
   have IB:=ih b (by omega) s4 s5
   have IE:=ih el (by omega) s6 s7
   have NE:=nodes_refl e (by omega)
   have NA:=fun (j:Nat) (hj:j < a.length)=>nodes_refl (a[j]'hj) (by have:=s3 _ (List.getElem_mem hj);omega)
   have ma:(a.map LNs).length=a.length:=by simp
   have ga:=fun j (hj:j < a.length)=>getD_map (l:=a) (f:=LNs) hj
   unfold LLNs at g1
   have e1:(!strEq nm nm)=false:=by simp [strEq_refl]
   have e2:(!strEq p p)=false:=by simp [strEq_refl]
   clear ih hm hs
   repeat' first|(refine DN.alloc rfl rfl rfl rfl rfl rfl rfl rfl rfl ?_;skip)|((with_reducible refine DrawReg.id ?_);refine drawVoid (fun r hr=>?_);simp only [keys,List.nil_append,List.cons_append,List.map_cons,List.map_nil,List.mem_cons,List.not_mem_nil,not_or,or_false,not_false_eq_true] at hr;(repeat (obtain ⟨_,hr⟩:=hr));refine drawVoid (fun r hr=>?_);simp only [keys,List.nil_append,List.cons_append,List.map_cons,List.map_nil,List.mem_cons,List.not_mem_nil,not_or,or_false,not_false_eq_true] at hr;(repeat (obtain ⟨_,hr⟩:=hr));refine drawN cx [[(_,.void)],[(_,.void)]] rfl [[8,10],[9,11]] [] [0,1,2,3,4,5,6,7,8,9,10,11] (by repeat first|exact HTake.nil|(apply HTake.cons;focus (repeat first|exact HPick.hit))) rfl (by decide +kernel) ?_)|(refine DN.quiet rfl rfl rfl rfl ?_;(conv=>arg 7;whnf))|(refine DN.turn rfl rfl rfl rfl rfl ?_;(conv=>arg 7;whnf))|(refine DN.nilF ?_;(conv=>whnf))|(with_reducible first|refine Stp.rwB (e1) ?_)|(with_reducible first|refine Stp.rwB (e2) ?_)|refine Ops.tag rfl ?_|((with_reducible first|refine OpsT.yes' ?_);(conv=>arg 7;whnf))|(refine OpsT.go ?_;(conv=>arg 7;whnf))|(with_reducible first|refine Stp.orF ?_|refine Stp.notT ?_)|((with_reducible refine Stp.isDec ?_);first|refine Stp.decT ?_)|((with_reducible refine Stp.isNe ?_);first|refine Stp.neF ?_)|refine Stp.pure rfl ?_|refine PutK.mk' rfl ?_|refine Ops.nil ?_|refine DStp.pure rfl ?_|refine PutD.mk' rfl ?_|((with_reducible refine Look.id ?_);refine Look.at ?_;try (conv=>arg 7;whnf))|((with_reducible refine Side.id ?_);first|refine Side.auto ?_)|((with_reducible refine Br.id ?_);first|(with_reducible first|refine br_true rfl ?_|refine br_false rfl ?_))|((with_reducible refine SemWp.id ?_);first|refine sem_seq ?_|refine sem_region rfl ?_|refine sem_cond rfl ?_|refine sem_block ?_|refine sem_skip ?_|refine sem_draw ?_)|((with_reducible refine qThen.id ?_);first|refine qThen.go ?_)|refine Stp.valS ?_|refine Stp.look ?_|refine Stp.call ?_|refine DStp.valS ?_|((with_reducible refine CallWp.id ?_);first|refine Pur.call (NE) ?_|refine Pur.call (IB) ?_|refine Pur.call (IE) ?_)|refine TStp.look ?_|refine TStp.upd [(_,.cells _ _)] rfl rfl (by repeat first|exact HsetIs.hit) ?_|rw [g1]
   rename_i r7
   refine sem_loop cx (ι:=Nat) (fun j=>j≤a.length) (fun j=>[(0,.sure,.list .no 7 (l.map encSD)),(1,.sure,.list .no 7 (l.map encSD)),(5,.sure,ii i),(6,.sure,.ptr r 0),(7,.sure,.ptr r7 0),(8,.sure,ii j)]) (fun _=>[(r,.cells [ii k,ss nm,ss p,LNs e,.list .no 1 (a.map LNs),LSDs b,LSDs el] 41),(r7,.cells [ii k,ss nm,ss p,LNs e,.list .no 1 (a.map LNs),LSDs b,LSDs el] 41)]) (fun j=>a.length - j) 0 (Nat.zero_le _) (by repeat' first|exact Sub.nil _|refine Sub.auto ?_) Subp.tk ?_
   intro j j1
   by_cases hj:j < a.length
   ·have NAj:=NA j hj
    have gj:=ga j hj
    repeat' first|refine Ops.tag rfl ?_|(refine OpsT.go ?_;(conv=>arg 7;whnf))|((with_reducible refine Stp.isSum ?_);refine Stp.sum ?_)|((with_reducible refine Stp.isDec ?_);first|refine Stp.decT ?_)|refine Stp.pure rfl ?_|refine Ops.nil ?_|(refine DOps.cons rfl rfl ?_;(conv=>arg 7;whnf))|(with_reducible first|refine DStp.notT ?_)|refine DStp.pure rfl ?_|refine PutD.mk' rfl ?_|refine DOps.nil rfl ?_|((with_reducible refine Look.id ?_);refine Look.at ?_;try (conv=>arg 7;whnf))|((with_reducible refine Side.id ?_);first|refine Side.auto ?_)|((with_reducible refine Br.id ?_);first|(with_reducible first|refine br_true rfl ?_|refine br_false rfl ?_))|((with_reducible refine SemWp.id ?_);first|refine sem_seq ?_|refine sem_region rfl ?_|refine sem_cond rfl ?_|refine sem_block ?_|refine sem_skip ?_|refine sem_draw ?_)|((with_reducible refine qThen.id ?_);first|refine qThen.go ?_)|((with_reducible refine hinBlock.id ?_);first|refine hinBlock.go ?_)|((with_reducible refine hround.id ?_);first|refine hround.go ?_)|refine Stp.valS ?_|refine Stp.look ?_|refine DStp.valS ?_|refine DStp.look ?_|refine DStp.call ?_|((with_reducible refine QAsk.id ?_);first|(refine Pur.ask (NAj) ?_ ?_;focus (intro h;first|exact rfl)))|((with_reducible refine DrawReg.id ?_);refine drawQ' cx (by decide +kernel) rfl ?_)|rw [gj]
    exact Fin.mk ⟨j+1,by omega,by omega,by repeat' first|exact Sub.nil _|refine Sub.auto ?_,Subp.of_eq rfl⟩
   ·have:j=a.length:=by omega
    subst this
    repeat' first|refine Ops.tag rfl ?_|(refine OpsT.go ?_;(conv=>arg 7;whnf))|((with_reducible refine Stp.isSum ?_);refine Stp.sum ?_)|((with_reducible refine Stp.isDec ?_);first|refine Stp.decF ?_)|refine Stp.pure rfl ?_|refine Ops.nil ?_|((with_reducible refine Look.id ?_);refine Look.at ?_;try (conv=>arg 7;whnf))|((with_reducible refine Side.id ?_);first|refine Side.auto ?_)|((with_reducible refine Br.id ?_);first|(with_reducible first|refine br_false rfl ?_))|((with_reducible refine SemWp.id ?_);first|refine sem_seq ?_|refine sem_region rfl ?_|refine sem_cond rfl ?_|refine sem_exit ?_)|((with_reducible refine qThen.id ?_);first|refine qThen.go ?_)|((with_reducible refine hround.id ?_);first|refine hround.go ?_)|refine Stp.valS ?_|refine Stp.look ?_
    exact Fin.mk ⟨i+1,by omega,by omega,by repeat' first|exact Sub.nil _|refine Sub.auto ?_,Subp.nil _⟩
  ·have:i=l.length:=by omega
   subst this
   repeat' first|refine Ops.tag rfl ?_|(refine OpsT.go ?_;(conv=>arg 7;whnf))|((with_reducible refine Stp.isDec ?_);first|refine Stp.decF ?_)|refine Stp.pure rfl ?_|refine Ops.nil ?_|((with_reducible refine Br.id ?_);first|(with_reducible first|refine br_false rfl ?_))|((with_reducible refine SemWp.id ?_);first|refine sem_seq ?_|refine sem_region rfl ?_|refine sem_cond rfl ?_|refine sem_exit ?_|refine sem_ret ?_)|((with_reducible refine qThen.id ?_);first|refine qThen.go ?_)|((with_reducible refine BodyR.id ?_);first|refine BodyR.ret ?_)|((with_reducible refine ResG.id ?_);first|refine ResG.tmp rfl ?_|refine ResG.nil ?_)
   exact Fin.mk rfl
set_option maxHeartbeats 8000000 in
theorem Same_refl (l:List PD) (hl:l.length≤100000) (hs:∀ p∈l,smP p):Pur cx 7 [.agg [LPDs l],.agg [LPDs l]] (bb true):=by
 have m:(l.map encPD).length=l.length:=by simp
 unfold LPDs
 refine Pur.of (sem_calls' cx (fn:=Tryz.f7) rfl rfl rfl rfl ?_)
 repeat' first|refine Ops.tag rfl ?_|(refine OpsT.go ?_;(conv=>arg 7;whnf))|((with_reducible refine Stp.isNe ?_);first|refine Stp.neF ?_)|refine Stp.pure rfl ?_|refine PutK.mk' rfl ?_|refine Ops.nil ?_|((with_reducible refine Look.id ?_);refine Look.at ?_;try (conv=>arg 7;whnf))|((with_reducible refine Side.id ?_);first|refine Side.auto ?_)|((with_reducible refine Br.id ?_);first|(with_reducible first|refine br_false rfl ?_))|((with_reducible refine SemWp.id ?_);first|refine sem_seq ?_|refine sem_region rfl ?_|refine sem_cond rfl ?_|refine sem_block ?_|refine sem_skip ?_)|((with_reducible refine qThen.id ?_);first|refine qThen.go ?_)|refine Stp.valS ?_|refine Stp.look ?_|refine Stp.eff ?_|(refine newN (fun r hr=>?_);simp only [keys,List.nil_append,List.cons_append,List.map_cons,List.map_nil,List.mem_cons,List.not_mem_nil,not_or,or_false,not_false_eq_true] at hr)
 rename_i r2 hr2
 refine sem_loop cx (ι:=Nat) (fun i=>i≤l.length) (fun i=>[(2,.sure,.ptr r2 0),(3,.sure,.ptr r 0),(5,.sure,ii i)]) (fun _=>[(r,.cells [.list .no 5 (l.map encPD)] 25),(r2,.cells [.list .no 5 (l.map encPD)] 25)]) (fun i=>l.length - i) 0 (Nat.zero_le _) (by repeat' first|exact Sub.nil _|refine Sub.auto ?_) (Subp.of_eq rfl) ?_
 intro i i1
 by_cases hi:i < l.length
 ·have g1:=getD_map (f:=encPD) hi
  have hm:=hs _ (List.getElem_mem hi)
  generalize l[i]=x at *
  obtain ⟨nm,ps,rs,vs,b⟩:=x
  obtain ⟨s1,s2,s3,s4⟩:=hm
  have g1:(l.map encPD).getD (i:Int).toNat default = .agg [ss nm,LSs' ps,ss rs,LSs' vs,LSDs b]:=g1
  have T1:=Texts_refl ps (by show ps.length≤_;have:ps.length≤8193:=s1;omega)
  have T2:=Texts_refl vs (by show vs.length≤_;have:vs.length≤8193:=s2;omega)
  have S:=same_refl _ b (Nat.le_refl _) s3 s4
  have e1:(!strEq nm nm)=false:=by simp [strEq_refl]
  have e2:(!strEq rs rs)=false:=by simp [strEq_refl]
  repeat' first|(refine DN.alloc rfl rfl rfl rfl rfl rfl rfl rfl rfl ?_;skip)|((with_reducible refine DrawReg.id ?_);refine drawVoid (fun r hr=>?_);simp only [keys,List.nil_append,List.cons_append,List.map_cons,List.map_nil,List.mem_cons,List.not_mem_nil,not_or,or_false,not_false_eq_true] at hr;(repeat (obtain ⟨_,hr⟩:=hr));refine drawVoid (fun r hr=>?_);simp only [keys,List.nil_append,List.cons_append,List.map_cons,List.map_nil,List.mem_cons,List.not_mem_nil,not_or,or_false,not_false_eq_true] at hr;(repeat (obtain ⟨_,hr⟩:=hr));refine drawN cx [[(_,.void)],[(_,.void)]] rfl [[10,12],[11,13]] [] [0,1,2,3,4,5,6,7,8,9,10,11,12,13] (by repeat first|exact HTake.nil|(apply HTake.cons;focus (repeat first|exact HPick.hit))) rfl (by decide +kernel) ?_)|(refine DN.quiet rfl rfl rfl rfl ?_;(conv=>arg 7;whnf))|(refine DN.turn rfl rfl rfl rfl rfl ?_;(conv=>arg 7;whnf))|(refine DN.nilF ?_;(conv=>whnf))|(with_reducible first|refine Stp.rwB (e1) ?_)|(with_reducible first|refine Stp.rwB (e2) ?_)|refine Ops.tag rfl ?_|((with_reducible first|refine OpsT.yes' ?_);(conv=>arg 7;whnf))|(refine OpsT.go ?_;(conv=>arg 7;whnf))|(with_reducible first|refine Stp.orF ?_|refine Stp.notT ?_)|((with_reducible refine Stp.isSum ?_);refine Stp.sum ?_)|((with_reducible refine Stp.isDec ?_);first|refine Stp.decT ?_)|refine Stp.pure rfl ?_|refine PutK.mk' rfl ?_|refine Ops.nil ?_|refine DStp.pure rfl ?_|refine PutD.mk' rfl ?_|((with_reducible refine Look.id ?_);refine Look.at ?_;try (conv=>arg 7;whnf))|((with_reducible refine Side.id ?_);first|refine Side.auto ?_)|((with_reducible refine Br.id ?_);first|(with_reducible first|refine br_true rfl ?_|refine br_false rfl ?_))|((with_reducible refine SemWp.id ?_);first|refine sem_seq ?_|refine sem_region rfl ?_|refine sem_cond rfl ?_|refine sem_block ?_|refine sem_skip ?_|refine sem_draw ?_)|((with_reducible refine qThen.id ?_);first|refine qThen.go ?_)|((with_reducible refine hinBlock.id ?_);first|refine hinBlock.go ?_)|((with_reducible refine hround.id ?_);first|refine hround.go ?_)|refine Stp.valS ?_|refine Stp.look ?_|refine Stp.call ?_|refine DStp.valS ?_|refine DStp.look ?_|((with_reducible refine CallWp.id ?_);first|refine Pur.call (T1) ?_|refine Pur.call (T2) ?_|refine Pur.call (S) ?_)|refine TStp.look ?_|refine TStp.upd [(_,.cells _ _)] rfl rfl (by repeat first|exact HsetIs.hit) ?_|rw [g1]
  refine Fin.mk ⟨i+1,by omega,by omega,by repeat' first|exact Sub.nil _|refine Sub.auto ?_,Subp.tk⟩
 ·have:i=l.length:=by omega
  subst this
  repeat' first|refine Ops.tag rfl ?_|(refine OpsT.go ?_;(conv=>arg 7;whnf))|((with_reducible refine Stp.isDec ?_);first|refine Stp.decF ?_)|refine Stp.pure rfl ?_|refine Ops.nil ?_|((with_reducible refine Look.id ?_);refine Look.at ?_;try (conv=>arg 7;whnf))|((with_reducible refine Side.id ?_);first|refine Side.auto ?_)|((with_reducible refine Br.id ?_);first|(with_reducible first|refine br_false rfl ?_))|((with_reducible refine SemWp.id ?_);first|refine sem_seq ?_|refine sem_region rfl ?_|refine sem_cond rfl ?_|refine sem_exit ?_|refine sem_ret ?_)|((with_reducible refine qThen.id ?_);first|refine qThen.go ?_)|refine Stp.valS ?_|refine Stp.look ?_|((with_reducible refine BodyR.id ?_);first|refine BodyR.ret ?_)|((with_reducible refine ResG.id ?_);first|refine ResG.tmp rfl ?_|refine ResG.nil ?_)
  exact Fin.mk rfl
end Go.Proofs.Hk

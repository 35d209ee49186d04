import Derived.Test.YtcihapdaapkdjaaGreatDoorX10
import Derived.Test.YtcihapdaapkdjaaGreatDoorL1
import Derived.Test.YtcihapdaapkdjaaGreatDoorQ19a
import Derived.Test.YtcihapdaapkdjaaGreatDoorH41
set_option linter.unusedSimpArgs false
set_option linter.unusedVariables false
set_option maxRecDepth 4000
namespace Go.Proofs.Hk
open Go Go.Proofs
theorem rParse_le (s:ByteArray) (e:Int) (p:Nat) (h:lexR s = .error (e,p)):Pur cx 6 [ss s] (progV ([],e,p)):=by
 have L:=rLex_spec s
 rw [h] at L
 have h0:¬ e=0:=lexR_ne0 h
 have L:Pur cx 13 [ss s] (.tup [.list .no 3 [],ii e,ii p]):=L
 refine Pur.ofW (sem_calls' cx (fn:=Tryz.f6) rfl rfl rfl rfl ?_)
 repeat' first|refine Ops.tag rfl ?_|(refine OpsT.go ?_;(conv=>arg 7;whnf))|((with_reducible refine Stp.isNe ?_);first|refine Stp.neT ?_)|refine Stp.pure rfl ?_|((with_reducible refine PutK.isSet ?_);refine PutK.st ?_)|refine PutK.mk' rfl ?_|refine Ops.nil ?_|((with_reducible refine Look.id ?_);refine Look.at ?_;try (conv=>arg 7;whnf))|((with_reducible refine Side.id ?_);first|refine Side.auto ?_)|((with_reducible refine Br.id ?_);first|(with_reducible first|refine br_true rfl ?_))|((with_reducible refine SemWp.id ?_);first|refine sem_seq ?_|refine sem_region rfl ?_|refine sem_cond rfl ?_|refine sem_ret ?_)|((with_reducible refine qThen.id ?_);first|refine qThen.go ?_|refine qThen.ret ?_)|refine Stp.look ?_|refine Stp.call ?_|refine Stp.eff ?_|((with_reducible refine CallWp.id ?_);first|refine Pur.call (L) ?_)|(refine newN (fun r hr=>?_);simp only [keys,List.nil_append,List.cons_append,List.map_cons,List.map_nil,List.mem_cons,List.not_mem_nil,not_or,or_false,not_false_eq_true] at hr;(repeat (obtain ⟨_,hr⟩:=hr)))|((with_reducible refine BodyR.id ?_);first|refine BodyR.ret ?_)|((with_reducible refine ResG.id ?_);first|refine ResG.tmp rfl ?_|refine ResG.cell rfl ?_|refine ResG.nil ?_)|((with_reducible refine LoadIs.id ?_);first|refine LoadIs.ag rfl rfl rfl ?_)|((with_reducible refine Upd.id ?_);first|(refine Upd.lit rfl ?_;(conv=>whnf)))
 exact Fin.mk ⟨_,rfl,Weaker.tup (.cons (Weaker.agg (.cons (Weaker.nil _) rfl .nil)) (.cons (Weaker.refl _) (.cons (Weaker.refl _) .nil)))⟩
/-- What is left of a program behind so many procedures: at least one is read. -/
def pLoop (l:List Tk) (g:Nat) (acc:List PD) (j:Nat):Res' (List PD):=match acc with
 |[]=>pProg l g [] j
 |p::ps=>pMore l g (p::ps) j
theorem pLoop_snoc (l:List Tk) (g:Nat) (acc:List PD) (p:PD) (j:Nat):pLoop l g (acc ++ [p]) j=pMore l g (acc ++ [p]) j:=by
 cases acc<;>rfl
theorem pLoop_go {l:List Tk} {g:Nat} {acc:List PD} {j:Nat} (h:acc=[]∨¬ (tk l j).kind=0):pLoop l (g+1) acc j=bindR (pProc l g j) fun p m=>pLoop l g (acc ++ [p]) m:=by
 have e:(fun p m=>pLoop l g (acc ++ [p]) m)=fun p m=>pMore l g (acc ++ [p]) m:=funext fun p=>funext fun m=>pLoop_snoc l g acc p m
 rw [e,←pMore_succ]
 cases acc with
 |nil=>rfl
 |cons p ps=>
  show pMore l (g+1) (p::ps) j=_
  unfold pMore
  rw [if_neg (h.resolve_left (by simp))]
theorem pLoop_no {l:List Tk} {acc:List PD} {j:Nat} (h:¬ (acc=[]∨¬ (tk l j).kind=0)) (g:Nat):pLoop l g acc j=okR acc j:=by
 cases acc with
 |nil=>exact absurd (.inl rfl) h
 |cons p ps=>
  show pMore l g (p::ps) j=_
  unfold pMore
  rw [if_pos (Classical.byContradiction fun k=>h (.inr k))]
theorem prog_of {s:ByteArray} {l:List Tk} (h:lexR s = .ok l) {acc:List PD} {j:Nat} {e a:Int} (hR:Rel l (pProg l (16 * l.length+4) [] 0) 0 0 0 ⟨acc,j,e,a⟩):progR s=if e=0 then (acc,0,0) else ([],e,a):=by
 have k:=hR.good rfl
 unfold progR
 rw [h]
 dsimp only
 generalize pProg l (16 * l.length+4) [] 0=R at *
 match R,k with
 |some (.ok (x,m)),k=>
  have k:(⟨acc,j,e,a⟩:St (List PD))=⟨x,m,0,0⟩:=k
  injection k with k1 k2 k3 k4
  subst k1 k3
  rfl
 |some (.error (c,m,d)),k=>
  obtain ⟨c0,k2,k3,k4⟩:=k
  dsimp only at k2 k3 k4
  rw [k3,k4,if_neg c0]
structure PrI (l:List Tk) (R:Res' (List PD)) (x:Nat × List PD × Nat × Int × Int):Prop where
 lt:x.2.2.1 < l.length
 l1:x.2.2.2.1=0→x.2.1.length≤x.2.2.1
 l2:x.2.1.length≤x.2.2.1+1
 ne:x.2.2.2.1=0→pLoop l x.1 x.2.1 x.2.2.1≠none
 k:∀ G,Rel l (pLoop l x.1 x.2.1 x.2.2.1) x.2.2.1 x.2.2.2.1 x.2.2.2.2 G→Rel l R 0 0 0 G
set_option maxHeartbeats 8000000 in
theorem rParse_ok (s:ByteArray) (l:List Tk) (h:lexR s = .ok l):Pur cx 6 [ss s] (progV (progR s)):=by
 have L:=rLex_spec s
 rw [h] at L
 have wn:=lexR_wf h
 have wf:=wn.toWfT
 have wl:=wf.len
 have hi:=lexR_pos h
 have L:Pur cx 13 [ss s] (.tup [LTk l,ii 0,ii 0]):=L
 have PO:=fun acc j e a hR=>prog_of (acc:=acc) (j:=j) (e:=e) (a:=a) h hR
 have I0:PrI l (pProg l (16 * l.length+4) [] 0) (16 * l.length+4,[],0,0,0):=⟨hi,fun _=>Nat.zero_le _,Nat.zero_le _,fun _=>pProg_some wf _ _ _ hi (by omega),fun G h=>h⟩
 generalize 16 * l.length+4=F at *
 generalize pProg l F [] 0=R at *
 generalize progR s=V at *
 refine Pur.ofW (sem_calls' cx (fn:=Tryz.f6) rfl rfl rfl rfl ?_)
 repeat' first|refine Ops.tag rfl ?_|(refine OpsT.go ?_;(conv=>arg 7;whnf))|((with_reducible refine Stp.isNe ?_);first|refine Stp.neF ?_)|refine Stp.pure rfl ?_|((with_reducible refine PutK.isSet ?_);refine PutK.st ?_)|refine PutK.mk' rfl ?_|refine Ops.nil ?_|((with_reducible refine Look.id ?_);refine Look.at ?_;try (conv=>arg 7;whnf))|((with_reducible refine Side.id ?_);first|refine Side.auto ?_)|((with_reducible refine Br.id ?_);first|(with_reducible first|refine br_false rfl ?_))|((with_reducible refine SemWp.id ?_);first|refine sem_seq ?_|refine sem_region rfl ?_|refine sem_cond rfl ?_|refine sem_block ?_|refine sem_skip ?_)|((with_reducible refine qThen.id ?_);first|refine qThen.go ?_)|refine Stp.look ?_|refine Stp.call ?_|refine Stp.eff ?_|((with_reducible refine CallWp.id ?_);first|refine Pur.call (L) ?_)|(refine newN (fun r hr=>?_);simp only [keys,List.nil_append,List.cons_append,List.map_cons,List.map_nil,List.mem_cons,List.not_mem_nil,not_or,or_false,not_false_eq_true] at hr;(repeat (obtain ⟨_,hr⟩:=hr)))|((with_reducible refine Upd.id ?_);first|(refine Upd.lit rfl ?_;(conv=>whnf)))
 refine sem_cellOwn cx _ 5 [] [] (by repeat first|exact HPick.hit|apply HPick.miss) ?_
 intro rt hrt
 simp only [keys,List.map_cons,List.map_nil,List.mem_cons,List.not_mem_nil,not_or,or_false,not_false_eq_true] at hrt
 (repeat (obtain ⟨_,hrt⟩:=hrt))
 simp only [List.cons_append,List.nil_append]
 rename_i r2 q na1 na2 na3 na4
 have ne_q_r:q≠r:=(by first|assumption|(apply Ne.symm;assumption)|omega);have ne_q_r2:q≠r2:=(by first|assumption|(apply Ne.symm;assumption)|omega);have ne_q_rt:q≠rt:=(by first|assumption|(apply Ne.symm;assumption)|omega);have ne_r_q:r≠q:=(by first|assumption|(apply Ne.symm;assumption)|omega);have ne_r_r2:r≠r2:=(by first|assumption|(apply Ne.symm;assumption)|omega);have ne_r_rt:r≠rt:=(by first|assumption|(apply Ne.symm;assumption)|omega);have ne_r2_q:r2≠q:=(by first|assumption|(apply Ne.symm;assumption)|omega);have ne_r2_r:r2≠r:=(by first|assumption|(apply Ne.symm;assumption)|omega);have ne_r2_rt:r2≠rt:=(by first|assumption|(apply Ne.symm;assumption)|omega);have ne_rt_q:rt≠q:=(by first|assumption|(apply Ne.symm;assumption)|omega);have ne_rt_r:rt≠r:=(by first|assumption|(apply Ne.symm;assumption)|omega);have ne_rt_r2:rt≠r2:=(by first|assumption|(apply Ne.symm;assumption)|omega)
 refine sem_loop cx (ι:=Nat × List PD × Nat × Int × Int) (PrI l R) (fun x=>[(9,.sure,.ptr r 0),(8,.sure,.ptr q 0),(2,.sure,.ptr r2 0)])
  (fun x=>[(q,.cells [LTk l,ii x.2.2.1,ii 0,ii x.2.2.2.1,ii x.2.2.2.2] 56),(r2,.cells [.v (.slice none 0 0)] 25),(r,.cells [.list (.own rt 0) 5 (x.2.1.map encPD)] 25),(rt,.tok x.2.1.length)])
  (fun x=>x.1) (F,[],0,0,0) I0 (by repeat' first|exact Sub.nil _|refine Sub.auto ?_) Subp.tk ?_
 clear I0 L
 rintro ⟨g,acc,j,e',a'⟩ hJ
 obtain ⟨hj,l1,l2,ne,K⟩:=hJ
 dsimp only at hj l1 l2 ne K ⊢
 have ml:(acc.map encPD).length=acc.length:=by simp
 have ml2:(l.map tokD).length=l.length:=by simp
 have g0:=getD_tk hj
 by_cases he:e'=0
 rotate_left
 ·have RV:=PO _ _ _ _ (K ⟨acc,j,e',a'⟩ ⟨hj,Nat.le_refl _,fun h=>absurd h he,fun _=>⟨rfl,rfl,rfl⟩⟩)
  rw [if_neg he] at RV
  subst RV
  clear K ne l1 PO
  repeat' first|((with_reducible refine DrawReg.id ?_);refine drawN cx [[(_,.cells _ 25)]] rfl [[9]] [] [0,1,2,3,4,5,6,7,8,9,10,11] (by repeat first|exact HTake.nil|(apply HTake.cons;focus (repeat first|exact HPick.hit|apply HPick.miss))) rfl (by decide +kernel) ?_)|(refine DN.dead rfl rfl rfl rfl rfl ?_;skip)|(refine DN.quiet rfl rfl rfl rfl ?_;(conv=>arg 7;whnf))|(refine DN.turn rfl rfl rfl rfl rfl ?_;(conv=>arg 7;whnf))|(refine DN.nilF ?_;(conv=>whnf))|((with_reducible refine DrawReg.id ?_);refine drawN cx [] rfl [] [] [0,1,2,3,4,5,6,7,8,9,10,11,12,13,14,15,16,17,18,19,20,21,22,23,24] (by repeat first|exact HTake.nil) rfl (by decide +kernel) ?_)|refine Ops.tag rfl ?_|(refine OpsT.go ?_;(conv=>arg 7;whnf))|((with_reducible refine Stp.isNe ?_);first|refine Stp.neT ?_)|refine Stp.pure rfl ?_|refine Ops.nil ?_|(with_reducible first|refine DStp.andF ?_)|((with_reducible refine DStp.isEq ?_);first|refine DStp.eqF ?_)|refine DStp.pure rfl ?_|refine PutD.mk' rfl ?_|((with_reducible refine Look.id ?_);refine Look.at ?_;try (conv=>arg 7;whnf))|((with_reducible refine Side.id ?_);first|refine Side.auto ?_)|((with_reducible refine Br.id ?_);first|(with_reducible first|refine br_true rfl ?_|refine br_false rfl ?_))|((with_reducible refine SemWp.id ?_);first|refine sem_seq ?_|refine sem_region rfl ?_|refine sem_cond rfl ?_|refine sem_exit ?_|refine sem_ret ?_|refine sem_draw ?_)|((with_reducible refine qThen.id ?_);first|refine qThen.go ?_|refine qThen.ret ?_)|refine Stp.valS ?_|refine Stp.look ?_|refine DStp.valS ?_|refine DStp.look ?_|((with_reducible refine BodyR.id ?_);first|refine BodyR.ret ?_)|((with_reducible refine ResG.id ?_);first|refine ResG.tmp rfl ?_|refine ResG.cell rfl ?_|refine ResG.nil ?_)|((with_reducible refine LoadIs.id ?_);first|refine LoadIs.ag rfl rfl rfl ?_)|refine TStp.look ?_|refine TStp.upd [(_,.cells _ _)] rfl rfl (by repeat first|exact HsetIs.hit) ?_
  exact Fin.mk ⟨_,rfl,Weaker.tup (.cons (Weaker.agg (.cons (Weaker.nil _) rfl .nil)) (.cons (Weaker.refl _) (.cons (Weaker.refl _) .nil)))⟩
 subst he
 have l1:=l1 rfl
 by_cases ca:acc=[]∨¬ (tk l j).kind=0
 rotate_left
 ·have RV:=PO _ _ _ _ (K ⟨acc,j,0,a'⟩ (by rw [pLoop_no ca];exact Rel.ok hj _ _ _))
  rw [if_pos rfl] at RV
  subst RV
  have hne:¬ acc.length=0:=fun h=>ca (.inl (List.length_eq_zero_iff.1 h))
  have k0:(tk l j).kind=0:=Classical.byContradiction fun k=>ca (.inr k)
  rw [k0] at g0
  clear K ne PO ca
  generalize (tk l j).text=tx at *
  generalize ((tk l j).pos:Int)=px at *
  repeat' first|((with_reducible refine DrawReg.id ?_);refine drawN cx [] rfl [] [] [0,1,2,3,4,5,6,7,8,9,10,11,12,13,14,15,16,17,18,19,20,21,22,23,24] (by repeat first|exact HTake.nil) rfl (by decide +kernel) ?_)|(refine DN.quiet rfl rfl rfl rfl ?_;(conv=>arg 7;whnf))|(refine DN.nilF ?_;(conv=>whnf))|refine Ops.tag rfl ?_|(refine OpsT.go ?_;(conv=>arg 7;whnf))|((with_reducible refine Stp.isNe ?_);first|refine Stp.neF ?_)|refine Stp.pure rfl ?_|((with_reducible refine PutK.isSet ?_);refine PutK.st ?_)|refine PutK.mk' rfl ?_|refine Ops.nil ?_|(with_reducible first|refine DStp.orF ?_|refine DStp.andT ?_)|((with_reducible refine DStp.isEq ?_);first|refine DStp.eqT ?_|refine DStp.eqF ?_)|((with_reducible refine DStp.isNe ?_);first|refine DStp.neF ?_)|refine DStp.pure rfl ?_|((with_reducible refine Look.id ?_);refine Look.at ?_;try (conv=>arg 7;whnf))|((with_reducible refine Side.id ?_);first|refine Side.auto ?_)|((with_reducible refine Br.id ?_);first|(with_reducible first|refine br_false rfl ?_))|((with_reducible refine SemWp.id ?_);first|refine sem_seq ?_|refine sem_region rfl ?_|refine sem_cond rfl ?_|refine sem_exit ?_|refine sem_ret ?_|refine sem_skip ?_|refine sem_draw ?_)|((with_reducible refine qThen.id ?_);first|refine qThen.go ?_)|refine Stp.valS ?_|refine Stp.look ?_|refine Stp.eff ?_|refine DStp.valS ?_|refine DStp.valSC ?_|refine DStp.look ?_|((with_reducible refine BodyR.id ?_);first|refine BodyR.ret ?_)|((with_reducible refine ResG.id ?_);first|refine ResG.tmp rfl ?_|refine ResG.cell rfl ?_|refine ResG.nil ?_)|((with_reducible refine LoadIs.id ?_);first|refine LoadIs.ag rfl rfl rfl ?_)|((with_reducible refine Upd.id ?_);first|(refine Upd.lit rfl ?_;(conv=>whnf)))|rw [g0]
  exact Fin.mk ⟨_,rfl,Weaker.tup (.cons (Weaker.agg (.cons (Weaker.tok _ _ _) rfl .nil)) (.cons (Weaker.refl _) (.cons (Weaker.refl _) .nil)))⟩
 have ne:=ne rfl
 cases g with
 |zero=>
  exfalso
  cases acc with
  |nil=>exact ne rfl
  |cons p ps=>
   apply ne
   show pMore l 0 (p::ps) j=none
   unfold pMore
   rw [if_neg (ca.resolve_left (by simp))]
   rfl
 |succ g=>
 rw [pLoop_go ca] at ne K
 have C:=rproc l wn g q j a' hj (bindR_ne0 ne)
 have F:=fun p m hb=>pProc_facts (f:=g) (p:=p) (j:=m) wf hj hb
 unfold rs at C
 clear PO
 by_cases cn:acc=[]
 ·subst cn
  clear ca
  repeat' first|((with_reducible refine DrawReg.id ?_);refine drawN cx [] rfl [] [] [0,1,2,3,4,5,6,7,8,9,10,11,12,13,14,15,16,17,18,19,20,21,22,23,24] (by repeat first|exact HTake.nil) rfl (by decide +kernel) ?_)|(refine DN.dead rfl rfl rfl rfl rfl ?_;skip)|(refine DN.quiet rfl rfl rfl rfl ?_;(conv=>arg 7;whnf))|(refine DN.turn rfl rfl rfl rfl rfl ?_;(conv=>arg 7;whnf))|(refine DN.nilF ?_;(conv=>whnf))|((with_reducible refine DrawReg.id ?_);refine drawX cx [[(_,.cells [.list _ _ _] 25),(_,.tok _)],[(q,_)]] rfl [[5,7],[3]] [[1]] 3 1 [0,1,2] [4,5,6,7] (by repeat first|exact HTake.nil|(apply HTake.cons;focus (repeat first|exact HPick.hit|apply HPick.miss))) rfl rfl rfl (by decide +kernel) ?_)|(refine DX.quiet rfl rfl rfl rfl ?_;(conv=>arg 7;whnf))|(refine DX.read rfl rfl rfl rfl rfl rfl ?_;(conv=>arg 7;whnf))|(refine DX.nil ?_;refine DFam.call rfl rfl rfl rfl rfl rfl (C) (fun g1 hg1=>?_))|(with_reducible first|refine DStp.andT ?_|refine DStp.orF2 ?_)|((with_reducible refine DStp.isEq ?_);first|refine DStp.eqT ?_)|refine DStp.pure rfl ?_|refine PutD.mk' rfl ?_|((with_reducible refine Look.id ?_);refine Look.at ?_;try (conv=>arg 7;whnf))|((with_reducible refine Side.id ?_);first|refine Side.auto ?_)|((with_reducible refine Br.id ?_);first|(with_reducible first|refine br_true rfl ?_))|((with_reducible refine SemWp.id ?_);first|refine sem_seq ?_|refine sem_cond rfl ?_|refine sem_block ?_|refine sem_skip ?_|refine sem_draw ?_)|((with_reducible refine qThen.id ?_);first|refine qThen.go ?_)|refine DStp.valS ?_|refine DStp.valSC ?_|refine DStp.look ?_|refine TStp.look ?_|refine TStp.upd [(_,.cells _ _),(_,_)] rfl rfl (by repeat first|exact HsetIs.hit) ?_|refine TStp.app [(_,_),(_,.tok _)] (by repeat first|exact HsetIs.hit|apply HsetIs.miss (by first|assumption)) ?_|rw [ml]
  have e1:([] ++ [g1.v]).map encPD=[].map encPD ++ [encPD g1.v]:=by simp
  have e2:([] ++ [g1.v]).length=([]:List PD).length+1:=by simp
  refine Fin.mk ⟨(g,[] ++ [g1.v],g1.j,g1.e,g1.a),⟨hg1.lt,fun h=>?_,?_,fun h=>Rel.ne hg1 (fun _=>ne) h,fun G hG=>K G (Rel.bind hg1 hG)⟩,by show g < g+1;omega,Sub.cons rfl rfl (Sub.cons rfl rfl (Sub.cons rfl rfl (Sub.nil _))),?_⟩
  ·dsimp only at h ⊢
   rw [e2]
   have k:=hg1.good rfl
   split at k
   ·rename_i x m hb
    have:=F x m hb
    have k1:g1.j=m:=by rw [k]
    omega
   ·exact absurd (k.2.2.1.symm.trans h) k.1
   ·exact k.elim
  ·dsimp only
   rw [e2]
   have:=hg1.le
   omega
  ·dsimp only
   rw [e1,e2]
   exact Subp.tk
 ·have hne:¬ acc.length=0:=fun h=>cn (List.length_eq_zero_iff.1 h)
  have k0:=ca.resolve_left cn
  clear ca cn
  generalize (tk l j).kind=kd at *
  generalize (tk l j).text=tx at *
  generalize ((tk l j).pos:Int)=px at *
  repeat' first|((with_reducible refine DrawReg.id ?_);refine drawN cx [] rfl [] [] [0,1,2,3,4,5,6,7,8,9,10,11,12,13,14,15,16,17,18,19,20,21,22,23,24] (by repeat first|exact HTake.nil) rfl (by decide +kernel) ?_)|(refine DN.quiet rfl rfl rfl rfl ?_;(conv=>arg 7;whnf))|(refine DN.turn rfl rfl rfl rfl rfl ?_;(conv=>arg 7;whnf))|(refine DN.nilF ?_;(conv=>whnf))|((with_reducible refine DrawReg.id ?_);refine drawX cx [[(_,.cells [.list _ _ _] 25),(_,.tok _)],[(q,_)]] rfl [[5,7],[3]] [[1]] 3 1 [0,1,2] [4,5,6,7] (by repeat first|exact HTake.nil|(apply HTake.cons;focus (repeat first|exact HPick.hit|apply HPick.miss))) rfl rfl rfl (by decide +kernel) ?_)|(refine DX.quiet rfl rfl rfl rfl ?_;(conv=>arg 7;whnf))|(refine DX.read rfl rfl rfl rfl rfl rfl ?_;(conv=>arg 7;whnf))|(refine DX.nil ?_;refine DFam.call rfl rfl rfl rfl rfl rfl (C) (fun g1 hg1=>?_))|(with_reducible first|refine DStp.orF ?_|refine DStp.andT ?_)|((with_reducible refine DStp.isEq ?_);first|refine DStp.eqT ?_|refine DStp.eqF ?_)|((with_reducible refine DStp.isNe ?_);first|refine DStp.neT ?_)|refine DStp.pure rfl ?_|refine PutD.mk' rfl ?_|((with_reducible refine Look.id ?_);refine Look.at ?_;try (conv=>arg 7;whnf))|((with_reducible refine Side.id ?_);first|refine Side.auto ?_)|((with_reducible refine Br.id ?_);first|(with_reducible first|refine br_true rfl ?_))|((with_reducible refine SemWp.id ?_);first|refine sem_seq ?_|refine sem_cond rfl ?_|refine sem_block ?_|refine sem_skip ?_|refine sem_draw ?_)|((with_reducible refine qThen.id ?_);first|refine qThen.go ?_)|refine DStp.valS ?_|refine DStp.valSC ?_|refine DStp.look ?_|refine TStp.look ?_|refine TStp.upd [(_,.cells _ _),(_,_)] rfl rfl (by repeat first|exact HsetIs.hit) ?_|refine TStp.app [(_,_),(_,.tok _)] (by repeat first|exact HsetIs.hit|apply HsetIs.miss (by first|assumption)) ?_|rw [g0]|rw [ml]
  have e1:(acc ++ [g1.v]).map encPD=acc.map encPD ++ [encPD g1.v]:=by simp
  have e2:(acc ++ [g1.v]).length=(acc:List PD).length+1:=by simp
  refine Fin.mk ⟨(g,acc ++ [g1.v],g1.j,g1.e,g1.a),⟨hg1.lt,fun h=>?_,?_,fun h=>Rel.ne hg1 (fun _=>ne) h,fun G hG=>K G (Rel.bind hg1 hG)⟩,by show g < g+1;omega,Sub.cons rfl rfl (Sub.cons rfl rfl (Sub.cons rfl rfl (Sub.nil _))),?_⟩
  ·dsimp only at h ⊢
   rw [e2]
   have k:=hg1.good rfl
   split at k
   ·rename_i x m hb
    have:=F x m hb
    have k1:g1.j=m:=by rw [k]
    omega
   ·exact absurd (k.2.2.1.symm.trans h) k.1
   ·exact k.elim
  ·dsimp only
   rw [e2]
   have:=hg1.le
   omega
  ·dsimp only
   rw [e1,e2]
   exact Subp.tk
theorem rParse_spec (s:ByteArray):Pur cx 6 [ss s] (progV (progR s)):=by
 cases h:lexR s with
 |error x=>
  obtain ⟨e,p⟩:=x
  have:=rParse_le s e p h
  rwa [show progR s=(([]:List PD),e,(p:Int)) by unfold progR;rw [h]]
 |ok l=>exact rParse_ok s l h
end Go.Proofs.Hk

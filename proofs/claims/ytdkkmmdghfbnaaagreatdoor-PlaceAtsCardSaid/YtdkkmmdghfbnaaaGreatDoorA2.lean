import Derived.Test.YtdkkmmdghfbnaaaGreatDoorL3
import Derived.Test.YtdkkmmdghfbnaaaGreatDoorE12
import Derived.Test.YtdkkmmdghfbnaaaGreatDoorCX
import Derived.Test.YtdkkmmdghfbnaaaGreatDoorE5
import Derived.Test.YtdkkmmdghfbnaaaGreatDoorM3
import Derived.WalkKit
import Derived.Lib.Walk
import Derived.Lib.SliceRun
import Derived.Lib.AppendZerosOnto
import Derived.Test.YtdkkmmdghfbnaaaGreatDoorCards
set_option linter.unusedSimpArgs false
set_option linter.unusedVariables false
set_option maxRecDepth 4000
set_option maxRecDepth 4000
namespace Go.Proofs.Hk
open Go Go.Proofs
theorem int_t {x y:Int} (h:(x == y)=true):(x != y)=false:=by rw [bne,h];rfl
theorem int_f {x y:Int} (h:(x == y)=false):(x != y)=true:=by rw [bne,h];rfl
theorem eqInts_spec (a b:List Int) (ha:a.length≤1000000):Pur cx 43 [LInts a,LInts b] (bb (eqI a b)):=by
 have ma:(a.map ii).length=a.length:=by simp
 have mb:(b.map ii).length=b.length:=by simp
 generalize hW:eqI a b=W
 unfold LInts
 refine Pur.ofW (sem_calls' cx (fn:=Tryz.f43) rfl rfl rfl rfl ?_)
 by_cases hl:a.length=b.length
 ·repeat' first|refine Ops.tag rfl ?_|((with_reducible first|refine OpsT.yes ?_|refine OpsT.yes' ?_);(conv=>arg 7;whnf))|(with_reducible first|refine OpsT.andT ?_|refine OpsT.andF ?_|refine OpsT.no ?_|refine OpsT.no' ?_)|(refine OpsT.go ?_;(conv=>arg 7;whnf))|(with_reducible first|refine Stp.orF ?_|refine Stp.orT ?_|refine Stp.andT ?_|refine Stp.andF ?_|refine Stp.notT ?_|refine Stp.notF ?_|refine Stp.andT2 ?_|refine Stp.orF2 ?_)|((with_reducible refine Stp.isSum ?_);refine Stp.sum ?_)|((with_reducible refine Stp.isSumU ?_);refine Stp.sumU ?_)|((with_reducible refine Stp.isSum3 ?_);refine Stp.sum3 ?_)|((with_reducible refine Stp.isDec ?_);first|refine Stp.decT ?_|refine Stp.decF ?_)|((with_reducible refine Stp.isEq ?_);first|refine Stp.eqT ?_|refine Stp.eqF ?_)|((with_reducible refine Stp.isNe ?_);first|refine Stp.neT ?_|refine Stp.neF ?_)|refine Stp.pure rfl ?_|((with_reducible refine PutK.isSet ?_);refine PutK.set (by repeat first|exact HsetIs.hit|apply HsetIs.miss (by first|assumption|(apply Ne.symm;assumption)|omega)) ?_)|refine PutK.mk' rfl ?_|refine Ops.nil ?_|(refine DOps.cons rfl rfl ?_;(conv=>arg 7;whnf))|(with_reducible first|refine DStp.orF ?_|refine DStp.orT ?_|refine DStp.andT ?_|refine DStp.andF ?_|refine DStp.notT ?_|refine DStp.notF ?_|refine DStp.andT2 ?_|refine DStp.orF2 ?_)|((with_reducible refine DStp.isSum ?_);refine DStp.sum ?_)|((with_reducible refine DStp.isSumU ?_);refine DStp.sumU ?_)|((with_reducible refine DStp.isSum3 ?_);refine DStp.sum3 ?_)|((with_reducible refine DStp.isDec ?_);first|refine DStp.decT ?_|refine DStp.decF ?_)|((with_reducible refine DStp.isEq ?_);first|refine DStp.eqT ?_|refine DStp.eqF ?_)|((with_reducible refine DStp.isNe ?_);first|refine DStp.neT ?_|refine DStp.neF ?_)|refine DStp.pure rfl ?_|refine DStp.dead rfl ?_|refine PutD.mk' rfl ?_|refine DOps.nil rfl ?_|((with_reducible refine Look.id ?_);refine Look.auto ?_ (by repeat first|exact HGet.hit|apply HGet.miss (by first|assumption|(apply Ne.symm;assumption)|omega));try (conv=>arg 7;whnf))|((with_reducible refine Side.id ?_);first|refine Side.auto ?_)|((with_reducible refine Br.id ?_);first|(with_reducible first|refine br_true rfl ?_|refine br_false rfl ?_)|refine br_true (by with_reducible assumption) ?_|refine br_false (by with_reducible assumption) ?_|refine br_dec_t (by with_reducible assumption) ?_|refine br_dec_f (by with_reducible assumption) ?_|refine br_beq_t (by with_reducible assumption) ?_|refine br_beq_f (by with_reducible assumption) ?_|refine br_bne_t (by with_reducible assumption) ?_|refine br_bne_f (by with_reducible assumption) ?_|refine br_true rfl ?_|refine br_false rfl ?_|refine br_dec (fun _=>?_) (fun _=>?_)|refine br_beq (fun _=>?_) (fun _=>?_)|refine br_bne (fun _=>?_) (fun _=>?_)|refine br_split (fun _=>?_) (fun _=>?_))|((with_reducible refine SemWp.id ?_);first|refine sem_seq ?_|refine sem_region rfl ?_|refine sem_cond rfl ?_|refine sem_block ?_|refine sem_exit ?_|refine sem_ret ?_|refine sem_skip ?_|refine sem_label ?_|refine sem_draw ?_|refine sem_scope ?_)|((with_reducible refine qThen.id ?_);first|refine qThen.go ?_|refine qThen.ret ?_|refine qThen.exit ?_|refine qThen.pan ?_)|((with_reducible refine hinBlock.id ?_);first|refine hinBlock.go ?_|refine hinBlock.ret ?_|refine hinBlock.pan ?_|refine hinBlock.here rfl ?_|refine hinBlock.on rfl ?_)|((with_reducible refine hround.id ?_);first|refine hround.go ?_|refine hround.ret ?_|refine hround.exit ?_|refine hround.pan ?_)|((with_reducible refine bodyQ.id ?_);first|refine bodyQ.ret rfl ?_|refine bodyQ.ret2 rfl ?_|refine bodyQ.ret0 rfl ?_|refine bodyQ.go ?_|refine bodyQ.pan ?_)|refine Stp.valS ?_|refine Stp.valSC ?_|refine Stp.look ?_|refine Stp.call ?_|refine Stp.callC ?_|refine Stp.eff ?_|refine Stp.effC ?_|refine Stp.pan ?_|refine Stp.panC ?_|refine DStp.valS ?_|refine DStp.valSC ?_|refine DStp.look ?_|refine DStp.call ?_|refine DStp.callC ?_|((with_reducible refine CallC.id ?_);first|refine CallC.two ?_)|((with_reducible refine DrawReg.id ?_);refine drawQ' cx (by decide +kernel) rfl ?_)|(refine newN (fun r hr=>?_);simp only [keys,List.nil_append,List.cons_append,List.map_cons,List.map_nil,List.mem_cons,List.not_mem_nil,not_or,or_false,not_false_eq_true] at hr)|((with_reducible refine SeqD.id ?_);first|refine SeqD.go ?_|refine SeqD.ret ?_)|(with_reducible refine semD_seq cx ?_)|((with_reducible refine BodyR.id ?_);first|refine BodyR.ret ?_|refine BodyR.go ?_|refine BodyR.pan ?_)|((with_reducible refine ResG.id ?_);first|refine ResG.tmp rfl ?_|refine ResG.cell rfl ?_|refine ResG.nil ?_)|((with_reducible refine LoadIs.id ?_);first|refine LoadIs.agg (by repeat first|exact HGet.hit|apply HGet.miss (by first|assumption|(apply Ne.symm;assumption)|omega)) rfl rfl rfl ?_|refine LoadIs.one (by repeat first|exact HGet.hit|apply HGet.miss (by first|assumption|(apply Ne.symm;assumption)|omega)) rfl rfl rfl rfl ?_)|((with_reducible refine Upd.id ?_);first|(refine Upd.lit rfl ?_;(conv=>whnf))|refine Upd.set (by omega) ?_|refine Upd.set (by (simp only [List.length_map,List.length_set,List.length_replicate];omega)) ?_)|((with_reducible refine Grow2.id ?_);refine Grow2.own ?_)|refine newCap (fun cap hcap=>?_)|refine newB (fun b hb=>?_)|refine grow_split (fun _=>?_) (fun _=>?_)|fail
  refine sem_loop cx (ι:=Nat) (fun i=>i≤a.length∧eqL (fun x y:Int=>x == y) (a.drop i) (b.drop i)=W) (fun i=>[(0,.sure,LInts a),(1,.sure,LInts b),(12,.sure,ii a.length),(13,.sure,ii i)]) (fun _=>[]) (fun i=>a.length - i) 0 ⟨by omega,by simpa [eqI] using hW⟩ (Sub.cons rfl rfl (Sub.cons rfl rfl (Sub.cons rfl (by rw [ma];rfl) (Sub.cons rfl rfl (Sub.nil _))))) (Subp.nil _) ?_
  clear hW
  rintro i ⟨hi,hw⟩
  by_cases h1:i < a.length
  ·have h2:i < b.length:=by omega
   have g1:=getD_int h1
   have g2:=getD_int h2
   rw [eqL_drop (fun x y:Int=>x == y) h1 h2] at hw
   generalize a[i]=x at *
   generalize b[i]=y at *
   cases he:(x == y) with
   |true=>
    rw [he] at hw
    have hn:=int_t he
    have hw:eqL (fun x y:Int=>x == y) (a.drop (i+1)) (b.drop (i+1))=W:=by simpa using hw
    repeat' first|refine Ops.tag rfl ?_|((with_reducible first|refine OpsT.yes ?_|refine OpsT.yes' ?_);(conv=>arg 7;whnf))|(with_reducible first|refine OpsT.andT ?_|refine OpsT.andF ?_|refine OpsT.no ?_|refine OpsT.no' ?_)|(refine OpsT.go ?_;(conv=>arg 7;whnf))|(with_reducible first|refine Stp.orF ?_|refine Stp.orT ?_|refine Stp.andT ?_|refine Stp.andF ?_|refine Stp.notT ?_|refine Stp.notF ?_|refine Stp.andT2 ?_|refine Stp.orF2 ?_)|((with_reducible refine Stp.isSum ?_);refine Stp.sum ?_)|((with_reducible refine Stp.isSumU ?_);refine Stp.sumU ?_)|((with_reducible refine Stp.isSum3 ?_);refine Stp.sum3 ?_)|((with_reducible refine Stp.isDec ?_);first|refine Stp.decT ?_|refine Stp.decF ?_)|((with_reducible refine Stp.isEq ?_);first|refine Stp.eqT ?_|refine Stp.eqF ?_)|((with_reducible refine Stp.isNe ?_);first|refine Stp.neT ?_|refine Stp.neF ?_)|refine Stp.pure rfl ?_|((with_reducible refine PutK.isSet ?_);refine PutK.set (by repeat first|exact HsetIs.hit|apply HsetIs.miss (by first|assumption|(apply Ne.symm;assumption)|omega)) ?_)|refine PutK.mk' rfl ?_|refine Ops.nil ?_|(refine DOps.cons rfl rfl ?_;(conv=>arg 7;whnf))|(with_reducible first|refine DStp.orF ?_|refine DStp.orT ?_|refine DStp.andT ?_|refine DStp.andF ?_|refine DStp.notT ?_|refine DStp.notF ?_|refine DStp.andT2 ?_|refine DStp.orF2 ?_)|((with_reducible refine DStp.isSum ?_);refine DStp.sum ?_)|((with_reducible refine DStp.isSumU ?_);refine DStp.sumU ?_)|((with_reducible refine DStp.isSum3 ?_);refine DStp.sum3 ?_)|((with_reducible refine DStp.isDec ?_);first|refine DStp.decT ?_|refine DStp.decF ?_)|((with_reducible refine DStp.isEq ?_);first|refine DStp.eqT ?_|refine DStp.eqF ?_)|((with_reducible refine DStp.isNe ?_);first|refine DStp.neT ?_|refine DStp.neF ?_)|refine DStp.pure rfl ?_|refine DStp.dead rfl ?_|refine PutD.mk' rfl ?_|refine DOps.nil rfl ?_|((with_reducible refine Look.id ?_);refine Look.auto ?_ (by repeat first|exact HGet.hit|apply HGet.miss (by first|assumption|(apply Ne.symm;assumption)|omega));try (conv=>arg 7;whnf))|((with_reducible refine Side.id ?_);first|refine Side.auto ?_)|((with_reducible refine Br.id ?_);first|(with_reducible first|refine br_true rfl ?_|refine br_false rfl ?_)|refine br_true (by with_reducible assumption) ?_|refine br_false (by with_reducible assumption) ?_|refine br_dec_t (by with_reducible assumption) ?_|refine br_dec_f (by with_reducible assumption) ?_|refine br_beq_t (by with_reducible assumption) ?_|refine br_beq_f (by with_reducible assumption) ?_|refine br_bne_t (by with_reducible assumption) ?_|refine br_bne_f (by with_reducible assumption) ?_|refine br_true rfl ?_|refine br_false rfl ?_|refine br_dec (fun _=>?_) (fun _=>?_)|refine br_beq (fun _=>?_) (fun _=>?_)|refine br_bne (fun _=>?_) (fun _=>?_)|refine br_split (fun _=>?_) (fun _=>?_))|((with_reducible refine SemWp.id ?_);first|refine sem_seq ?_|refine sem_region rfl ?_|refine sem_cond rfl ?_|refine sem_block ?_|refine sem_exit ?_|refine sem_ret ?_|refine sem_skip ?_|refine sem_label ?_|refine sem_draw ?_|refine sem_scope ?_)|((with_reducible refine qThen.id ?_);first|refine qThen.go ?_|refine qThen.ret ?_|refine qThen.exit ?_|refine qThen.pan ?_)|((with_reducible refine hinBlock.id ?_);first|refine hinBlock.go ?_|refine hinBlock.ret ?_|refine hinBlock.pan ?_|refine hinBlock.here rfl ?_|refine hinBlock.on rfl ?_)|((with_reducible refine hround.id ?_);first|refine hround.go ?_|refine hround.ret ?_|refine hround.exit ?_|refine hround.pan ?_)|((with_reducible refine bodyQ.id ?_);first|refine bodyQ.ret rfl ?_|refine bodyQ.ret2 rfl ?_|refine bodyQ.ret0 rfl ?_|refine bodyQ.go ?_|refine bodyQ.pan ?_)|refine Stp.valS ?_|refine Stp.valSC ?_|refine Stp.look ?_|refine Stp.call ?_|refine Stp.callC ?_|refine Stp.eff ?_|refine Stp.effC ?_|refine Stp.pan ?_|refine Stp.panC ?_|refine DStp.valS ?_|refine DStp.valSC ?_|refine DStp.look ?_|refine DStp.call ?_|refine DStp.callC ?_|((with_reducible refine CallC.id ?_);first|refine CallC.two ?_)|((with_reducible refine DrawReg.id ?_);refine drawQ' cx (by decide +kernel) rfl ?_)|(refine newN (fun r hr=>?_);simp only [keys,List.nil_append,List.cons_append,List.map_cons,List.map_nil,List.mem_cons,List.not_mem_nil,not_or,or_false,not_false_eq_true] at hr)|((with_reducible refine SeqD.id ?_);first|refine SeqD.go ?_|refine SeqD.ret ?_)|(with_reducible refine semD_seq cx ?_)|((with_reducible refine BodyR.id ?_);first|refine BodyR.ret ?_|refine BodyR.go ?_|refine BodyR.pan ?_)|((with_reducible refine ResG.id ?_);first|refine ResG.tmp rfl ?_|refine ResG.cell rfl ?_|refine ResG.nil ?_)|((with_reducible refine LoadIs.id ?_);first|refine LoadIs.agg (by repeat first|exact HGet.hit|apply HGet.miss (by first|assumption|(apply Ne.symm;assumption)|omega)) rfl rfl rfl ?_|refine LoadIs.one (by repeat first|exact HGet.hit|apply HGet.miss (by first|assumption|(apply Ne.symm;assumption)|omega)) rfl rfl rfl rfl ?_)|((with_reducible refine Upd.id ?_);first|(refine Upd.lit rfl ?_;(conv=>whnf))|refine Upd.set (by omega) ?_|refine Upd.set (by (simp only [List.length_map,List.length_set,List.length_replicate];omega)) ?_)|((with_reducible refine Grow2.id ?_);refine Grow2.own ?_)|refine newCap (fun cap hcap=>?_)|refine newB (fun b hb=>?_)|refine grow_split (fun _=>?_) (fun _=>?_)|rw [g1]|rw [g2]|fail
    exact Fin.mk ⟨i+1,⟨by omega,hw⟩,by omega,Sub.cons rfl rfl (Sub.cons rfl rfl (Sub.cons rfl rfl (Sub.cons rfl rfl (Sub.nil _)))),Subp.nil _⟩
   |false=>
    rw [he] at hw
    have hn:=int_f he
    have hw:false=W:=by simpa using hw
    subst hw
    repeat' first|refine Ops.tag rfl ?_|((with_reducible first|refine OpsT.yes ?_|refine OpsT.yes' ?_);(conv=>arg 7;whnf))|(with_reducible first|refine OpsT.andT ?_|refine OpsT.andF ?_|refine OpsT.no ?_|refine OpsT.no' ?_)|(refine OpsT.go ?_;(conv=>arg 7;whnf))|(with_reducible first|refine Stp.orF ?_|refine Stp.orT ?_|refine Stp.andT ?_|refine Stp.andF ?_|refine Stp.notT ?_|refine Stp.notF ?_|refine Stp.andT2 ?_|refine Stp.orF2 ?_)|((with_reducible refine Stp.isSum ?_);refine Stp.sum ?_)|((with_reducible refine Stp.isSumU ?_);refine Stp.sumU ?_)|((with_reducible refine Stp.isSum3 ?_);refine Stp.sum3 ?_)|((with_reducible refine Stp.isDec ?_);first|refine Stp.decT ?_|refine Stp.decF ?_)|((with_reducible refine Stp.isEq ?_);first|refine Stp.eqT ?_|refine Stp.eqF ?_)|((with_reducible refine Stp.isNe ?_);first|refine Stp.neT ?_|refine Stp.neF ?_)|refine Stp.pure rfl ?_|((with_reducible refine PutK.isSet ?_);refine PutK.set (by repeat first|exact HsetIs.hit|apply HsetIs.miss (by first|assumption|(apply Ne.symm;assumption)|omega)) ?_)|refine PutK.mk' rfl ?_|refine Ops.nil ?_|(refine DOps.cons rfl rfl ?_;(conv=>arg 7;whnf))|(with_reducible first|refine DStp.orF ?_|refine DStp.orT ?_|refine DStp.andT ?_|refine DStp.andF ?_|refine DStp.notT ?_|refine DStp.notF ?_|refine DStp.andT2 ?_|refine DStp.orF2 ?_)|((with_reducible refine DStp.isSum ?_);refine DStp.sum ?_)|((with_reducible refine DStp.isSumU ?_);refine DStp.sumU ?_)|((with_reducible refine DStp.isSum3 ?_);refine DStp.sum3 ?_)|((with_reducible refine DStp.isDec ?_);first|refine DStp.decT ?_|refine DStp.decF ?_)|((with_reducible refine DStp.isEq ?_);first|refine DStp.eqT ?_|refine DStp.eqF ?_)|((with_reducible refine DStp.isNe ?_);first|refine DStp.neT ?_|refine DStp.neF ?_)|refine DStp.pure rfl ?_|refine DStp.dead rfl ?_|refine PutD.mk' rfl ?_|refine DOps.nil rfl ?_|((with_reducible refine Look.id ?_);refine Look.auto ?_ (by repeat first|exact HGet.hit|apply HGet.miss (by first|assumption|(apply Ne.symm;assumption)|omega));try (conv=>arg 7;whnf))|((with_reducible refine Side.id ?_);first|refine Side.auto ?_)|((with_reducible refine Br.id ?_);first|(with_reducible first|refine br_true rfl ?_|refine br_false rfl ?_)|refine br_true (by with_reducible assumption) ?_|refine br_false (by with_reducible assumption) ?_|refine br_dec_t (by with_reducible assumption) ?_|refine br_dec_f (by with_reducible assumption) ?_|refine br_beq_t (by with_reducible assumption) ?_|refine br_beq_f (by with_reducible assumption) ?_|refine br_bne_t (by with_reducible assumption) ?_|refine br_bne_f (by with_reducible assumption) ?_|refine br_true rfl ?_|refine br_false rfl ?_|refine br_dec (fun _=>?_) (fun _=>?_)|refine br_beq (fun _=>?_) (fun _=>?_)|refine br_bne (fun _=>?_) (fun _=>?_)|refine br_split (fun _=>?_) (fun _=>?_))|((with_reducible refine SemWp.id ?_);first|refine sem_seq ?_|refine sem_region rfl ?_|refine sem_cond rfl ?_|refine sem_block ?_|refine sem_exit ?_|refine sem_ret ?_|refine sem_skip ?_|refine sem_label ?_|refine sem_draw ?_|refine sem_scope ?_)|((with_reducible refine qThen.id ?_);first|refine qThen.go ?_|refine qThen.ret ?_|refine qThen.exit ?_|refine qThen.pan ?_)|((with_reducible refine hinBlock.id ?_);first|refine hinBlock.go ?_|refine hinBlock.ret ?_|refine hinBlock.pan ?_|refine hinBlock.here rfl ?_|refine hinBlock.on rfl ?_)|((with_reducible refine hround.id ?_);first|refine hround.go ?_|refine hround.ret ?_|refine hround.exit ?_|refine hround.pan ?_)|((with_reducible refine bodyQ.id ?_);first|refine bodyQ.ret rfl ?_|refine bodyQ.ret2 rfl ?_|refine bodyQ.ret0 rfl ?_|refine bodyQ.go ?_|refine bodyQ.pan ?_)|refine Stp.valS ?_|refine Stp.valSC ?_|refine Stp.look ?_|refine Stp.call ?_|refine Stp.callC ?_|refine Stp.eff ?_|refine Stp.effC ?_|refine Stp.pan ?_|refine Stp.panC ?_|refine DStp.valS ?_|refine DStp.valSC ?_|refine DStp.look ?_|refine DStp.call ?_|refine DStp.callC ?_|((with_reducible refine CallC.id ?_);first|refine CallC.two ?_)|((with_reducible refine DrawReg.id ?_);refine drawQ' cx (by decide +kernel) rfl ?_)|(refine newN (fun r hr=>?_);simp only [keys,List.nil_append,List.cons_append,List.map_cons,List.map_nil,List.mem_cons,List.not_mem_nil,not_or,or_false,not_false_eq_true] at hr)|((with_reducible refine SeqD.id ?_);first|refine SeqD.go ?_|refine SeqD.ret ?_)|(with_reducible refine semD_seq cx ?_)|((with_reducible refine BodyR.id ?_);first|refine BodyR.ret ?_|refine BodyR.go ?_|refine BodyR.pan ?_)|((with_reducible refine ResG.id ?_);first|refine ResG.tmp rfl ?_|refine ResG.cell rfl ?_|refine ResG.nil ?_)|((with_reducible refine LoadIs.id ?_);first|refine LoadIs.agg (by repeat first|exact HGet.hit|apply HGet.miss (by first|assumption|(apply Ne.symm;assumption)|omega)) rfl rfl rfl ?_|refine LoadIs.one (by repeat first|exact HGet.hit|apply HGet.miss (by first|assumption|(apply Ne.symm;assumption)|omega)) rfl rfl rfl rfl ?_)|((with_reducible refine Upd.id ?_);first|(refine Upd.lit rfl ?_;(conv=>whnf))|refine Upd.set (by omega) ?_|refine Upd.set (by (simp only [List.length_map,List.length_set,List.length_replicate];omega)) ?_)|((with_reducible refine Grow2.id ?_);refine Grow2.own ?_)|refine newCap (fun cap hcap=>?_)|refine newB (fun b hb=>?_)|refine grow_split (fun _=>?_) (fun _=>?_)|rw [g1]|rw [g2]|fail
    exact Fin.mk ⟨_,rfl,Weaker.refl _⟩
  ·rw [eqL_end (fun x y:Int=>x == y) (by omega) (by omega)] at hw
   subst hw
   repeat' first|refine Ops.tag rfl ?_|((with_reducible first|refine OpsT.yes ?_|refine OpsT.yes' ?_);(conv=>arg 7;whnf))|(with_reducible first|refine OpsT.andT ?_|refine OpsT.andF ?_|refine OpsT.no ?_|refine OpsT.no' ?_)|(refine OpsT.go ?_;(conv=>arg 7;whnf))|(with_reducible first|refine Stp.orF ?_|refine Stp.orT ?_|refine Stp.andT ?_|refine Stp.andF ?_|refine Stp.notT ?_|refine Stp.notF ?_|refine Stp.andT2 ?_|refine Stp.orF2 ?_)|((with_reducible refine Stp.isSum ?_);refine Stp.sum ?_)|((with_reducible refine Stp.isSumU ?_);refine Stp.sumU ?_)|((with_reducible refine Stp.isSum3 ?_);refine Stp.sum3 ?_)|((with_reducible refine Stp.isDec ?_);first|refine Stp.decT ?_|refine Stp.decF ?_)|((with_reducible refine Stp.isEq ?_);first|refine Stp.eqT ?_|refine Stp.eqF ?_)|((with_reducible refine Stp.isNe ?_);first|refine Stp.neT ?_|refine Stp.neF ?_)|refine Stp.pure rfl ?_|((with_reducible refine PutK.isSet ?_);refine PutK.set (by repeat first|exact HsetIs.hit|apply HsetIs.miss (by first|assumption|(apply Ne.symm;assumption)|omega)) ?_)|refine PutK.mk' rfl ?_|refine Ops.nil ?_|(refine DOps.cons rfl rfl ?_;(conv=>arg 7;whnf))|(with_reducible first|refine DStp.orF ?_|refine DStp.orT ?_|refine DStp.andT ?_|refine DStp.andF ?_|refine DStp.notT ?_|refine DStp.notF ?_|refine DStp.andT2 ?_|refine DStp.orF2 ?_)|((with_reducible refine DStp.isSum ?_);refine DStp.sum ?_)|((with_reducible refine DStp.isSumU ?_);refine DStp.sumU ?_)|((with_reducible refine DStp.isSum3 ?_);refine DStp.sum3 ?_)|((with_reducible refine DStp.isDec ?_);first|refine DStp.decT ?_|refine DStp.decF ?_)|((with_reducible refine DStp.isEq ?_);first|refine DStp.eqT ?_|refine DStp.eqF ?_)|((with_reducible refine DStp.isNe ?_);first|refine DStp.neT ?_|refine DStp.neF ?_)|refine DStp.pure rfl ?_|refine DStp.dead rfl ?_|refine PutD.mk' rfl ?_|refine DOps.nil rfl ?_|((with_reducible refine Look.id ?_);refine Look.auto ?_ (by repeat first|exact HGet.hit|apply HGet.miss (by first|assumption|(apply Ne.symm;assumption)|omega));try (conv=>arg 7;whnf))|((with_reducible refine Side.id ?_);first|refine Side.auto ?_)|((with_reducible refine Br.id ?_);first|(with_reducible first|refine br_true rfl ?_|refine br_false rfl ?_)|refine br_true (by with_reducible assumption) ?_|refine br_false (by with_reducible assumption) ?_|refine br_dec_t (by with_reducible assumption) ?_|refine br_dec_f (by with_reducible assumption) ?_|refine br_beq_t (by with_reducible assumption) ?_|refine br_beq_f (by with_reducible assumption) ?_|refine br_bne_t (by with_reducible assumption) ?_|refine br_bne_f (by with_reducible assumption) ?_|refine br_true rfl ?_|refine br_false rfl ?_|refine br_dec (fun _=>?_) (fun _=>?_)|refine br_beq (fun _=>?_) (fun _=>?_)|refine br_bne (fun _=>?_) (fun _=>?_)|refine br_split (fun _=>?_) (fun _=>?_))|((with_reducible refine SemWp.id ?_);first|refine sem_seq ?_|refine sem_region rfl ?_|refine sem_cond rfl ?_|refine sem_block ?_|refine sem_exit ?_|refine sem_ret ?_|refine sem_skip ?_|refine sem_label ?_|refine sem_draw ?_|refine sem_scope ?_)|((with_reducible refine qThen.id ?_);first|refine qThen.go ?_|refine qThen.ret ?_|refine qThen.exit ?_|refine qThen.pan ?_)|((with_reducible refine hinBlock.id ?_);first|refine hinBlock.go ?_|refine hinBlock.ret ?_|refine hinBlock.pan ?_|refine hinBlock.here rfl ?_|refine hinBlock.on rfl ?_)|((with_reducible refine hround.id ?_);first|refine hround.go ?_|refine hround.ret ?_|refine hround.exit ?_|refine hround.pan ?_)|((with_reducible refine bodyQ.id ?_);first|refine bodyQ.ret rfl ?_|refine bodyQ.ret2 rfl ?_|refine bodyQ.ret0 rfl ?_|refine bodyQ.go ?_|refine bodyQ.pan ?_)|refine Stp.valS ?_|refine Stp.valSC ?_|refine Stp.look ?_|refine Stp.call ?_|refine Stp.callC ?_|refine Stp.eff ?_|refine Stp.effC ?_|refine Stp.pan ?_|refine Stp.panC ?_|refine DStp.valS ?_|refine DStp.valSC ?_|refine DStp.look ?_|refine DStp.call ?_|refine DStp.callC ?_|((with_reducible refine CallC.id ?_);first|refine CallC.two ?_)|((with_reducible refine DrawReg.id ?_);refine drawQ' cx (by decide +kernel) rfl ?_)|(refine newN (fun r hr=>?_);simp only [keys,List.nil_append,List.cons_append,List.map_cons,List.map_nil,List.mem_cons,List.not_mem_nil,not_or,or_false,not_false_eq_true] at hr)|((with_reducible refine SeqD.id ?_);first|refine SeqD.go ?_|refine SeqD.ret ?_)|(with_reducible refine semD_seq cx ?_)|((with_reducible refine BodyR.id ?_);first|refine BodyR.ret ?_|refine BodyR.go ?_|refine BodyR.pan ?_)|((with_reducible refine ResG.id ?_);first|refine ResG.tmp rfl ?_|refine ResG.cell rfl ?_|refine ResG.nil ?_)|((with_reducible refine LoadIs.id ?_);first|refine LoadIs.agg (by repeat first|exact HGet.hit|apply HGet.miss (by first|assumption|(apply Ne.symm;assumption)|omega)) rfl rfl rfl ?_|refine LoadIs.one (by repeat first|exact HGet.hit|apply HGet.miss (by first|assumption|(apply Ne.symm;assumption)|omega)) rfl rfl rfl rfl ?_)|((with_reducible refine Upd.id ?_);first|(refine Upd.lit rfl ?_;(conv=>whnf))|refine Upd.set (by omega) ?_|refine Upd.set (by (simp only [List.length_map,List.length_set,List.length_replicate];omega)) ?_)|((with_reducible refine Grow2.id ?_);refine Grow2.own ?_)|refine newCap (fun cap hcap=>?_)|refine newB (fun b hb=>?_)|refine grow_split (fun _=>?_) (fun _=>?_)|fail
   exact Fin.mk ⟨_,rfl,Weaker.refl _⟩
 ·have hW:false=W:=by rw [←hW,eqI,eqL_len (fun x y:Int=>x == y) hl]
  subst hW
  repeat' first|refine Ops.tag rfl ?_|((with_reducible first|refine OpsT.yes ?_|refine OpsT.yes' ?_);(conv=>arg 7;whnf))|(with_reducible first|refine OpsT.andT ?_|refine OpsT.andF ?_|refine OpsT.no ?_|refine OpsT.no' ?_)|(refine OpsT.go ?_;(conv=>arg 7;whnf))|(with_reducible first|refine Stp.orF ?_|refine Stp.orT ?_|refine Stp.andT ?_|refine Stp.andF ?_|refine Stp.notT ?_|refine Stp.notF ?_|refine Stp.andT2 ?_|refine Stp.orF2 ?_)|((with_reducible refine Stp.isSum ?_);refine Stp.sum ?_)|((with_reducible refine Stp.isSumU ?_);refine Stp.sumU ?_)|((with_reducible refine Stp.isSum3 ?_);refine Stp.sum3 ?_)|((with_reducible refine Stp.isDec ?_);first|refine Stp.decT ?_|refine Stp.decF ?_)|((with_reducible refine Stp.isEq ?_);first|refine Stp.eqT ?_|refine Stp.eqF ?_)|((with_reducible refine Stp.isNe ?_);first|refine Stp.neT ?_|refine Stp.neF ?_)|refine Stp.pure rfl ?_|((with_reducible refine PutK.isSet ?_);refine PutK.set (by repeat first|exact HsetIs.hit|apply HsetIs.miss (by first|assumption|(apply Ne.symm;assumption)|omega)) ?_)|refine PutK.mk' rfl ?_|refine Ops.nil ?_|(refine DOps.cons rfl rfl ?_;(conv=>arg 7;whnf))|(with_reducible first|refine DStp.orF ?_|refine DStp.orT ?_|refine DStp.andT ?_|refine DStp.andF ?_|refine DStp.notT ?_|refine DStp.notF ?_|refine DStp.andT2 ?_|refine DStp.orF2 ?_)|((with_reducible refine DStp.isSum ?_);refine DStp.sum ?_)|((with_reducible refine DStp.isSumU ?_);refine DStp.sumU ?_)|((with_reducible refine DStp.isSum3 ?_);refine DStp.sum3 ?_)|((with_reducible refine DStp.isDec ?_);first|refine DStp.decT ?_|refine DStp.decF ?_)|((with_reducible refine DStp.isEq ?_);first|refine DStp.eqT ?_|refine DStp.eqF ?_)|((with_reducible refine DStp.isNe ?_);first|refine DStp.neT ?_|refine DStp.neF ?_)|refine DStp.pure rfl ?_|refine DStp.dead rfl ?_|refine PutD.mk' rfl ?_|refine DOps.nil rfl ?_|((with_reducible refine Look.id ?_);refine Look.auto ?_ (by repeat first|exact HGet.hit|apply HGet.miss (by first|assumption|(apply Ne.symm;assumption)|omega));try (conv=>arg 7;whnf))|((with_reducible refine Side.id ?_);first|refine Side.auto ?_)|((with_reducible refine Br.id ?_);first|(with_reducible first|refine br_true rfl ?_|refine br_false rfl ?_)|refine br_true (by with_reducible assumption) ?_|refine br_false (by with_reducible assumption) ?_|refine br_dec_t (by with_reducible assumption) ?_|refine br_dec_f (by with_reducible assumption) ?_|refine br_beq_t (by with_reducible assumption) ?_|refine br_beq_f (by with_reducible assumption) ?_|refine br_bne_t (by with_reducible assumption) ?_|refine br_bne_f (by with_reducible assumption) ?_|refine br_true rfl ?_|refine br_false rfl ?_|refine br_dec (fun _=>?_) (fun _=>?_)|refine br_beq (fun _=>?_) (fun _=>?_)|refine br_bne (fun _=>?_) (fun _=>?_)|refine br_split (fun _=>?_) (fun _=>?_))|((with_reducible refine SemWp.id ?_);first|refine sem_seq ?_|refine sem_region rfl ?_|refine sem_cond rfl ?_|refine sem_block ?_|refine sem_exit ?_|refine sem_ret ?_|refine sem_skip ?_|refine sem_label ?_|refine sem_draw ?_|refine sem_scope ?_)|((with_reducible refine qThen.id ?_);first|refine qThen.go ?_|refine qThen.ret ?_|refine qThen.exit ?_|refine qThen.pan ?_)|((with_reducible refine hinBlock.id ?_);first|refine hinBlock.go ?_|refine hinBlock.ret ?_|refine hinBlock.pan ?_|refine hinBlock.here rfl ?_|refine hinBlock.on rfl ?_)|((with_reducible refine hround.id ?_);first|refine hround.go ?_|refine hround.ret ?_|refine hround.exit ?_|refine hround.pan ?_)|((with_reducible refine bodyQ.id ?_);first|refine bodyQ.ret rfl ?_|refine bodyQ.ret2 rfl ?_|refine bodyQ.ret0 rfl ?_|refine bodyQ.go ?_|refine bodyQ.pan ?_)|refine Stp.valS ?_|refine Stp.valSC ?_|refine Stp.look ?_|refine Stp.call ?_|refine Stp.callC ?_|refine Stp.eff ?_|refine Stp.effC ?_|refine Stp.pan ?_|refine Stp.panC ?_|refine DStp.valS ?_|refine DStp.valSC ?_|refine DStp.look ?_|refine DStp.call ?_|refine DStp.callC ?_|((with_reducible refine CallC.id ?_);first|refine CallC.two ?_)|((with_reducible refine DrawReg.id ?_);refine drawQ' cx (by decide +kernel) rfl ?_)|(refine newN (fun r hr=>?_);simp only [keys,List.nil_append,List.cons_append,List.map_cons,List.map_nil,List.mem_cons,List.not_mem_nil,not_or,or_false,not_false_eq_true] at hr)|((with_reducible refine SeqD.id ?_);first|refine SeqD.go ?_|refine SeqD.ret ?_)|(with_reducible refine semD_seq cx ?_)|((with_reducible refine BodyR.id ?_);first|refine BodyR.ret ?_|refine BodyR.go ?_|refine BodyR.pan ?_)|((with_reducible refine ResG.id ?_);first|refine ResG.tmp rfl ?_|refine ResG.cell rfl ?_|refine ResG.nil ?_)|((with_reducible refine LoadIs.id ?_);first|refine LoadIs.agg (by repeat first|exact HGet.hit|apply HGet.miss (by first|assumption|(apply Ne.symm;assumption)|omega)) rfl rfl rfl ?_|refine LoadIs.one (by repeat first|exact HGet.hit|apply HGet.miss (by first|assumption|(apply Ne.symm;assumption)|omega)) rfl rfl rfl rfl ?_)|((with_reducible refine Upd.id ?_);first|(refine Upd.lit rfl ?_;(conv=>whnf))|refine Upd.set (by omega) ?_|refine Upd.set (by (simp only [List.length_map,List.length_set,List.length_replicate];omega)) ?_)|((with_reducible refine Grow2.id ?_);refine Grow2.own ?_)|refine newCap (fun cap hcap=>?_)|refine newB (fun b hb=>?_)|refine grow_split (fun _=>?_) (fun _=>?_)|fail
  exact Fin.mk ⟨_,rfl,Weaker.refl _⟩
end Go.Proofs.Hk

set_option linter.unusedVariables false
set_option maxRecDepth 10000
namespace Go.Proofs.Hk
open Go
theorem callAll {c:Cx} {f:FuncId} {xs:List HV} {s s':HS} {x:HV} {K E:HV→HS→Prop} (h:HCalls c.P f xs s fun e t=>e = .ret x∧t=s') (k:K x s'):CallWp c f xs s K E:=
 ⟨h.mono fun e t ⟨h1,h2⟩=>by subst h1 h2;exact k⟩
theorem Sub.go {a b:Fr} (h:Fr.Sub a b:=by repeat first|exact Sub.nil _|refine Sub.auto ?_):Fr.Sub a b:=h
theorem Subp.go {s s':HS} (h:Subp s s':=by
  first
  |exact Subp.nil _
  |exact Subp.of_eq rfl
  |(refine Subp.take (t:=?_) ?_;rotate_left;(repeat first|exact HTake.nil|(apply HTake.cons;focus (repeat first|exact HPick.hit|apply HPick.miss))))
  |exact ⟨_,.refl _,List.sublist_cons_self _ _⟩
  |exact ⟨_,.refl _,(List.sublist_cons_self _ _).cons _⟩):Subp s s':=h
/-- What is handed back. -/
structure Hold (A:Prop):Prop where
 out:A
/-- What is left over. -/
inductive Left0:Prop→Prop
 |nil:Left0 True
 |any (p:Prop):Left0 p
/-- A walk; what is left over is handed back. -/
theorem wk {P A1 A2 A3 A4 A5 A6 C1 C2 C3 C4 C5 C6 C7 C8 E1 E2 E3 E4 E5 E6:Prop} (q:A1∧A2∧A3∧A4∧A5∧A6) (c1:C1:=by exact True.intro) (c2:C2:=by exact True.intro) (c3:C3:=by exact True.intro) (c4:C4:=by exact True.intro) (c5:C5:=by exact True.intro) (c6:C6:=by exact True.intro) (c7:C7:=by exact True.intro) (c8:C8:=by exact True.intro) (e1:E1:=by exact True.intro) (e2:E2:=by exact True.intro) (e3:E3:=by exact True.intro) (e4:E4:=by exact True.intro) (e5:E5:=by exact True.intro) (e6:E6:=by exact True.intro) (h:C1→C2→C3→C4→C5→C6→C7→C8→E1→E2→E3→E4→E5→E6→Hold A1→Hold A2→Hold A3→Hold A4→Hold A5→Hold A6→P∧Left0 A1∧Left0 A2∧Left0 A3∧Left0 A4∧Left0 A5∧Left0 A6:=by
  intro c1 c2 c3 c4 c5 c6 c7 c8 e1 e2 e3 e4 e5 e6 a1 a2 a3 a4 a5 a6
  apply And.intro
  focus
   repeat' first|((with_reducible refine Stp.id ?_);first|(with_reducible first|refine Stp.rwB e1 ?_|refine Stp.rwB e2 ?_|refine Stp.rwB e3 ?_|refine Stp.rwB e4 ?_|refine Stp.rwB e5 ?_|refine Stp.rwB e6 ?_)|(with_reducible first|refine Stp.orF ?_|refine Stp.orT ?_|refine Stp.andT ?_|refine Stp.andF ?_|refine Stp.notT ?_|refine Stp.notF ?_|refine Stp.andT2 ?_|refine Stp.orF2 ?_)|((with_reducible refine Stp.isSum ?_);refine Stp.sum ?_)|((with_reducible refine Stp.isSumU ?_);refine Stp.sumU ?_)|((with_reducible refine Stp.isSum3 ?_);refine Stp.sum3 ?_)|((with_reducible refine Stp.isDec ?_);first|refine Stp.decT ?_|refine Stp.decF ?_)|((with_reducible refine Stp.isEq ?_);first|refine Stp.eqT ?_|refine Stp.eqF ?_)|((with_reducible refine Stp.isNe ?_);first|refine Stp.neT ?_|refine Stp.neF ?_)|refine Stp.pure rfl ?_|refine Stp.valS ?_|refine Stp.valSC ?_|refine Stp.look ?_|refine Stp.call ?_|refine Stp.callC ?_|refine Stp.eff ?_|refine Stp.effC ?_|refine Stp.pan ?_|refine Stp.panC ?_|rw [e1]|rw [e2]|rw [e3]|rw [e4]|rw [e5]|rw [e6])|((with_reducible refine OpsT.id ?_);first|((with_reducible first|refine OpsT.yes ?_|refine OpsT.yes' ?_);(conv=>arg 7;whnf))|(with_reducible first|refine OpsT.andT ?_|refine OpsT.andF ?_|refine OpsT.no ?_|refine OpsT.no' ?_)|(refine OpsT.go ?_;(conv=>arg 7;whnf)))|((with_reducible refine Ops.id ?_);first|refine Ops.tag rfl ?_|refine Ops.nil ?_)|((with_reducible refine PutK.id ?_);first|((with_reducible refine PutK.isSet ?_);refine PutK.set (by repeat first|exact HsetIs.hit|apply HsetIs.miss (by first|assumption|(apply Ne.symm;assumption)|omega)) ?_)|refine PutK.mk' rfl ?_)|((with_reducible refine Look.id ?_);first|(refine Look.auto ?_ (by repeat first|exact HGet.hit|apply HGet.miss (by first|assumption|(apply Ne.symm;assumption)|omega));try (conv=>arg 7;whnf)))|((with_reducible refine Side.id ?_);first|rw [e1]|rw [e2]|rw [e3]|rw [e4]|rw [e5]|rw [e6]|refine Side.auto ?_|refine Side.mk (by first|exact e1|exact fun _=>e1) ?_|refine Side.mk (by first|exact e2|exact fun _=>e2) ?_|refine Side.mk (by first|exact e3|exact fun _=>e3) ?_|refine Side.mk (by first|exact e4|exact fun _=>e4) ?_|refine Side.mk (by first|exact e5|exact fun _=>e5) ?_|refine Side.mk (by first|exact e6|exact fun _=>e6) ?_)|((with_reducible refine DStp.id ?_);first|(with_reducible first|refine DStp.rwB e1 ?_|refine DStp.rwB e2 ?_|refine DStp.rwB e3 ?_|refine DStp.rwB e4 ?_|refine DStp.rwB e5 ?_|refine DStp.rwB e6 ?_)|(with_reducible first|refine DStp.orF ?_|refine DStp.orT ?_|refine DStp.andT ?_|refine DStp.andF ?_|refine DStp.notT ?_|refine DStp.notF ?_|refine DStp.andT2 ?_|refine DStp.orF2 ?_)|((with_reducible refine DStp.isSum ?_);refine DStp.sum ?_)|((with_reducible refine DStp.isSumU ?_);refine DStp.sumU ?_)|((with_reducible refine DStp.isSum3 ?_);refine DStp.sum3 ?_)|((with_reducible refine DStp.isDec ?_);first|refine DStp.decT ?_|refine DStp.decF ?_)|((with_reducible refine DStp.isEq ?_);first|refine DStp.eqT ?_|refine DStp.eqF ?_)|((with_reducible refine DStp.isNe ?_);first|refine DStp.neT ?_|refine DStp.neF ?_)|refine DStp.pure rfl ?_|refine DStp.dead rfl ?_|refine DStp.valS ?_|refine DStp.valSC ?_|refine DStp.look ?_|refine DStp.call ?_|refine DStp.callC ?_|rw [e1]|rw [e2]|rw [e3]|rw [e4]|rw [e5]|rw [e6])|((with_reducible refine DOps.id ?_);first|(refine DOps.cons rfl rfl ?_;(conv=>arg 7;whnf))|refine DOps.nil rfl ?_)|((with_reducible refine PutD.id ?_);first|refine PutD.mk' rfl ?_)|((with_reducible refine SemWp.id ?_);first|refine sem_seq ?_|refine sem_region rfl ?_|refine sem_cond rfl ?_|refine sem_block ?_|refine sem_exit ?_|refine sem_ret ?_|refine sem_skip ?_|refine sem_label ?_|refine sem_draw ?_|refine sem_scope ?_)|((with_reducible refine Br.id ?_);first|(with_reducible first|refine br_true rfl ?_|refine br_false rfl ?_)|refine br_true (by with_reducible assumption) ?_|refine br_false (by with_reducible assumption) ?_|refine br_dec_t (by with_reducible assumption) ?_|refine br_dec_f (by with_reducible assumption) ?_|refine br_beq_t (by with_reducible assumption) ?_|refine br_beq_f (by with_reducible assumption) ?_|refine br_bne_t (by with_reducible assumption) ?_|refine br_bne_f (by with_reducible assumption) ?_|refine br_true rfl ?_|refine br_false rfl ?_|refine br_dec (fun wc=>?_) (fun wc=>?_)|refine br_beq (fun wc=>?_) (fun wc=>?_)|refine br_bne (fun wc=>?_) (fun wc=>?_)|refine br_split (fun wc=>?_) (fun wc=>?_))|((with_reducible refine qThen.id ?_);first|refine qThen.go ?_|refine qThen.ret ?_|refine qThen.exit ?_|refine qThen.pan ?_)|((with_reducible refine hinBlock.id ?_);first|refine hinBlock.go ?_|refine hinBlock.ret ?_|refine hinBlock.pan ?_|refine hinBlock.here rfl ?_|refine hinBlock.on rfl ?_)|((with_reducible refine hround.id ?_);first|refine hround.go ?_|refine hround.ret ?_|refine hround.exit ?_|refine hround.pan ?_)|((with_reducible refine bodyQ.id ?_);first|refine bodyQ.ret rfl ?_|refine bodyQ.ret2 rfl ?_|refine bodyQ.ret0 rfl ?_|refine bodyQ.go ?_|refine bodyQ.pan ?_)|((with_reducible refine CallWp.id ?_);first|refine Pur.call (by first|exact c1|(apply c1<;>first|assumption|omega)) ?_|(refine callT cx (by first|exact c1|(apply c1<;>first|assumption|omega)) (by repeat first|exact HTake.nil|(apply HTake.cons;focus (repeat first|exact HPick.hit|apply HPick.miss))) ?_;(conv=>whnf))|refine callAll (by first|exact c1|(apply c1<;>first|assumption|omega)) ?_|(refine callTX cx (by first|exact c1|(apply c1<;>first|assumption|omega)) (by repeat first|exact HTake.nil|(apply HTake.cons;focus (repeat first|exact HPick.hit|apply HPick.miss))) (fun wg hwg=>?_);(conv=>whnf))|refine Pur.call (by first|exact c2|(apply c2<;>first|assumption|omega)) ?_|(refine callT cx (by first|exact c2|(apply c2<;>first|assumption|omega)) (by repeat first|exact HTake.nil|(apply HTake.cons;focus (repeat first|exact HPick.hit|apply HPick.miss))) ?_;(conv=>whnf))|refine callAll (by first|exact c2|(apply c2<;>first|assumption|omega)) ?_|(refine callTX cx (by first|exact c2|(apply c2<;>first|assumption|omega)) (by repeat first|exact HTake.nil|(apply HTake.cons;focus (repeat first|exact HPick.hit|apply HPick.miss))) (fun wg hwg=>?_);(conv=>whnf))|refine Pur.call (by first|exact c3|(apply c3<;>first|assumption|omega)) ?_|(refine callT cx (by first|exact c3|(apply c3<;>first|assumption|omega)) (by repeat first|exact HTake.nil|(apply HTake.cons;focus (repeat first|exact HPick.hit|apply HPick.miss))) ?_;(conv=>whnf))|refine callAll (by first|exact c3|(apply c3<;>first|assumption|omega)) ?_|(refine callTX cx (by first|exact c3|(apply c3<;>first|assumption|omega)) (by repeat first|exact HTake.nil|(apply HTake.cons;focus (repeat first|exact HPick.hit|apply HPick.miss))) (fun wg hwg=>?_);(conv=>whnf))|refine Pur.call (by first|exact c4|(apply c4<;>first|assumption|omega)) ?_|(refine callT cx (by first|exact c4|(apply c4<;>first|assumption|omega)) (by repeat first|exact HTake.nil|(apply HTake.cons;focus (repeat first|exact HPick.hit|apply HPick.miss))) ?_;(conv=>whnf))|refine callAll (by first|exact c4|(apply c4<;>first|assumption|omega)) ?_|(refine callTX cx (by first|exact c4|(apply c4<;>first|assumption|omega)) (by repeat first|exact HTake.nil|(apply HTake.cons;focus (repeat first|exact HPick.hit|apply HPick.miss))) (fun wg hwg=>?_);(conv=>whnf))|refine Pur.call (by first|exact c5|(apply c5<;>first|assumption|omega)) ?_|(refine callT cx (by first|exact c5|(apply c5<;>first|assumption|omega)) (by repeat first|exact HTake.nil|(apply HTake.cons;focus (repeat first|exact HPick.hit|apply HPick.miss))) ?_;(conv=>whnf))|refine callAll (by first|exact c5|(apply c5<;>first|assumption|omega)) ?_|(refine callTX cx (by first|exact c5|(apply c5<;>first|assumption|omega)) (by repeat first|exact HTake.nil|(apply HTake.cons;focus (repeat first|exact HPick.hit|apply HPick.miss))) (fun wg hwg=>?_);(conv=>whnf))|refine Pur.call (by first|exact c6|(apply c6<;>first|assumption|omega)) ?_|(refine callT cx (by first|exact c6|(apply c6<;>first|assumption|omega)) (by repeat first|exact HTake.nil|(apply HTake.cons;focus (repeat first|exact HPick.hit|apply HPick.miss))) ?_;(conv=>whnf))|refine callAll (by first|exact c6|(apply c6<;>first|assumption|omega)) ?_|(refine callTX cx (by first|exact c6|(apply c6<;>first|assumption|omega)) (by repeat first|exact HTake.nil|(apply HTake.cons;focus (repeat first|exact HPick.hit|apply HPick.miss))) (fun wg hwg=>?_);(conv=>whnf))|refine Pur.call (by first|exact c7|(apply c7<;>first|assumption|omega)) ?_|(refine callT cx (by first|exact c7|(apply c7<;>first|assumption|omega)) (by repeat first|exact HTake.nil|(apply HTake.cons;focus (repeat first|exact HPick.hit|apply HPick.miss))) ?_;(conv=>whnf))|refine callAll (by first|exact c7|(apply c7<;>first|assumption|omega)) ?_|(refine callTX cx (by first|exact c7|(apply c7<;>first|assumption|omega)) (by repeat first|exact HTake.nil|(apply HTake.cons;focus (repeat first|exact HPick.hit|apply HPick.miss))) (fun wg hwg=>?_);(conv=>whnf))|refine Pur.call (by first|exact c8|(apply c8<;>first|assumption|omega)) ?_|(refine callT cx (by first|exact c8|(apply c8<;>first|assumption|omega)) (by repeat first|exact HTake.nil|(apply HTake.cons;focus (repeat first|exact HPick.hit|apply HPick.miss))) ?_;(conv=>whnf))|refine callAll (by first|exact c8|(apply c8<;>first|assumption|omega)) ?_|(refine callTX cx (by first|exact c8|(apply c8<;>first|assumption|omega)) (by repeat first|exact HTake.nil|(apply HTake.cons;focus (repeat first|exact HPick.hit|apply HPick.miss))) (fun wg hwg=>?_);(conv=>whnf))|rw [e1]|rw [e2]|rw [e3]|rw [e4]|rw [e5]|rw [e6])|((with_reducible refine QAsk.id ?_);first|(refine Pur.ask (by first|exact c1|(apply c1<;>first|assumption|omega)) ?_ ?_;focus (intro h;first|exact True.intro|exact h|exact rfl|exact ⟨h,rfl⟩|exact ⟨h,h,rfl⟩|exact ⟨h,h,h,rfl⟩|exact ⟨h,h,h,h,rfl⟩|(simp_all;done)|(simp_all;omega);done))|(refine Pur.ask (by first|exact c2|(apply c2<;>first|assumption|omega)) ?_ ?_;focus (intro h;first|exact True.intro|exact h|exact rfl|exact ⟨h,rfl⟩|exact ⟨h,h,rfl⟩|exact ⟨h,h,h,rfl⟩|exact ⟨h,h,h,h,rfl⟩|(simp_all;done)|(simp_all;omega);done))|(refine Pur.ask (by first|exact c3|(apply c3<;>first|assumption|omega)) ?_ ?_;focus (intro h;first|exact True.intro|exact h|exact rfl|exact ⟨h,rfl⟩|exact ⟨h,h,rfl⟩|exact ⟨h,h,h,rfl⟩|exact ⟨h,h,h,h,rfl⟩|(simp_all;done)|(simp_all;omega);done))|(refine Pur.ask (by first|exact c4|(apply c4<;>first|assumption|omega)) ?_ ?_;focus (intro h;first|exact True.intro|exact h|exact rfl|exact ⟨h,rfl⟩|exact ⟨h,h,rfl⟩|exact ⟨h,h,h,rfl⟩|exact ⟨h,h,h,h,rfl⟩|(simp_all;done)|(simp_all;omega);done))|(refine Pur.ask (by first|exact c5|(apply c5<;>first|assumption|omega)) ?_ ?_;focus (intro h;first|exact True.intro|exact h|exact rfl|exact ⟨h,rfl⟩|exact ⟨h,h,rfl⟩|exact ⟨h,h,h,rfl⟩|exact ⟨h,h,h,h,rfl⟩|(simp_all;done)|(simp_all;omega);done))|(refine Pur.ask (by first|exact c6|(apply c6<;>first|assumption|omega)) ?_ ?_;focus (intro h;first|exact True.intro|exact h|exact rfl|exact ⟨h,rfl⟩|exact ⟨h,h,rfl⟩|exact ⟨h,h,h,rfl⟩|exact ⟨h,h,h,h,rfl⟩|(simp_all;done)|(simp_all;omega);done))|(refine Pur.ask (by first|exact c7|(apply c7<;>first|assumption|omega)) ?_ ?_;focus (intro h;first|exact True.intro|exact h|exact rfl|exact ⟨h,rfl⟩|exact ⟨h,h,rfl⟩|exact ⟨h,h,h,rfl⟩|exact ⟨h,h,h,h,rfl⟩|(simp_all;done)|(simp_all;omega);done))|(refine Pur.ask (by first|exact c8|(apply c8<;>first|assumption|omega)) ?_ ?_;focus (intro h;first|exact True.intro|exact h|exact rfl|exact ⟨h,rfl⟩|exact ⟨h,h,rfl⟩|exact ⟨h,h,h,rfl⟩|exact ⟨h,h,h,h,rfl⟩|(simp_all;done)|(simp_all;omega);done))|rw [e1]|rw [e2]|rw [e3]|rw [e4]|rw [e5]|rw [e6])|((with_reducible refine CallC.id ?_);first|(refine Pur.askC (by first|exact c1|(apply c1<;>first|assumption|omega)) ?_ ?_;focus (intro h;first|exact True.intro|exact h|exact rfl|exact ⟨h,rfl⟩|exact ⟨h,h,rfl⟩|exact ⟨h,h,h,rfl⟩|exact ⟨h,h,h,h,rfl⟩|(simp_all;done)|(simp_all;omega);done))|(refine Pur.askC (by first|exact c2|(apply c2<;>first|assumption|omega)) ?_ ?_;focus (intro h;first|exact True.intro|exact h|exact rfl|exact ⟨h,rfl⟩|exact ⟨h,h,rfl⟩|exact ⟨h,h,h,rfl⟩|exact ⟨h,h,h,h,rfl⟩|(simp_all;done)|(simp_all;omega);done))|(refine Pur.askC (by first|exact c3|(apply c3<;>first|assumption|omega)) ?_ ?_;focus (intro h;first|exact True.intro|exact h|exact rfl|exact ⟨h,rfl⟩|exact ⟨h,h,rfl⟩|exact ⟨h,h,h,rfl⟩|exact ⟨h,h,h,h,rfl⟩|(simp_all;done)|(simp_all;omega);done))|(refine Pur.askC (by first|exact c4|(apply c4<;>first|assumption|omega)) ?_ ?_;focus (intro h;first|exact True.intro|exact h|exact rfl|exact ⟨h,rfl⟩|exact ⟨h,h,rfl⟩|exact ⟨h,h,h,rfl⟩|exact ⟨h,h,h,h,rfl⟩|(simp_all;done)|(simp_all;omega);done))|(refine Pur.askC (by first|exact c5|(apply c5<;>first|assumption|omega)) ?_ ?_;focus (intro h;first|exact True.intro|exact h|exact rfl|exact ⟨h,rfl⟩|exact ⟨h,h,rfl⟩|exact ⟨h,h,h,rfl⟩|exact ⟨h,h,h,h,rfl⟩|(simp_all;done)|(simp_all;omega);done))|(refine Pur.askC (by first|exact c6|(apply c6<;>first|assumption|omega)) ?_ ?_;focus (intro h;first|exact True.intro|exact h|exact rfl|exact ⟨h,rfl⟩|exact ⟨h,h,rfl⟩|exact ⟨h,h,h,rfl⟩|exact ⟨h,h,h,h,rfl⟩|(simp_all;done)|(simp_all;omega);done))|(refine Pur.askC (by first|exact c7|(apply c7<;>first|assumption|omega)) ?_ ?_;focus (intro h;first|exact True.intro|exact h|exact rfl|exact ⟨h,rfl⟩|exact ⟨h,h,rfl⟩|exact ⟨h,h,h,rfl⟩|exact ⟨h,h,h,h,rfl⟩|(simp_all;done)|(simp_all;omega);done))|(refine Pur.askC (by first|exact c8|(apply c8<;>first|assumption|omega)) ?_ ?_;focus (intro h;first|exact True.intro|exact h|exact rfl|exact ⟨h,rfl⟩|exact ⟨h,h,rfl⟩|exact ⟨h,h,h,rfl⟩|exact ⟨h,h,h,h,rfl⟩|(simp_all;done)|(simp_all;omega);done))|refine CallC.two ?_)|((with_reducible refine DrawReg.id ?_);refine drawQ' cx (by decide +kernel) rfl ?_)|((with_reducible refine SeqD.id ?_);first|refine SeqD.go ?_|refine SeqD.ret ?_)|(with_reducible refine semD_seq cx ?_)|((with_reducible refine BodyR.id ?_);first|refine BodyR.ret ?_|refine BodyR.go ?_|refine BodyR.pan ?_)|((with_reducible refine ResG.id ?_);first|refine ResG.tmp rfl ?_|refine ResG.cell rfl ?_|refine ResG.nil ?_)|((with_reducible refine LoadIs.id ?_);first|refine LoadIs.agg (by repeat first|exact HGet.hit|apply HGet.miss (by first|assumption|(apply Ne.symm;assumption)|omega)) rfl rfl rfl ?_|refine LoadIs.one (by repeat first|exact HGet.hit|apply HGet.miss (by first|assumption|(apply Ne.symm;assumption)|omega)) rfl rfl rfl rfl ?_)|((with_reducible refine Upd.id ?_);first|(refine Upd.lit rfl ?_;(conv=>whnf))|refine Upd.set e1 ?_|refine Upd.set e2 ?_|refine Upd.set e3 ?_|refine Upd.set e4 ?_|refine Upd.set e5 ?_|refine Upd.set e6 ?_|refine Upd.set (by omega) ?_|refine Upd.set (by (simp only [List.length_map,List.length_set,List.length_replicate];omega)) ?_)|((with_reducible refine Grow2.id ?_);refine Grow2.own ?_)|exact Fin.mk ⟨_,rfl,Weaker.refl _⟩|exact Fin.mk ⟨rfl,Subp.of_eq rfl⟩|exact Fin.mk ⟨rfl,Subp.go⟩|(refine newN (fun wr hwr=>?_);simp only [keys,List.nil_append,List.cons_append,List.map_cons,List.map_nil,List.mem_cons,List.not_mem_nil,not_or,or_false,not_false_eq_true] at hwr;(repeat (obtain ⟨_,hwr⟩:=hwr)))|refine newCap (fun wr hwr=>?_)|refine newB (fun wr hwr=>?_)|refine grow_split (fun wc=>?_) (fun wc=>?_)|rw [e1]|rw [e2]|rw [e3]|rw [e4]|rw [e5]|rw [e6]|fail
   all_goals ((repeat first|revert hwr|revert wr|revert hwg|revert wg|revert wc);first|with_reducible exact Hold.out a1|with_reducible exact Hold.out a2|with_reducible exact Hold.out a3|with_reducible exact Hold.out a4|with_reducible exact Hold.out a5|with_reducible exact Hold.out a6)
  (repeat' first|refine And.intro ?_ ?_|exact Left0.nil|exact Left0.any _)):P:=(h c1 c2 c3 c4 c5 c6 c7 c8 e1 e2 e3 e4 e5 e6 ⟨q.1⟩ ⟨q.2.1⟩ ⟨q.2.2.1⟩ ⟨q.2.2.2.1⟩ ⟨q.2.2.2.2.1⟩ ⟨q.2.2.2.2.2⟩).1
end Go.Proofs.Hk

set_option linter.unusedSimpArgs false
set_option linter.unusedVariables false
set_option maxRecDepth 4000
set_option maxRecDepth 4000
namespace Go.Proofs.Hk
open Go Go.Proofs
/-- The first that is so, by a function that is handed in. -/
theorem idxLoc_spec (k:FuncId) (caps:List HV) (st:HS) (f:LD→Bool) (hk:cx.fn k=true) (l:List LD) (hl:l.length≤1000000) (h:∀ y∈l,HCalls cx.P k (encLD y::caps) st fun e t=>e = .ret (bb (f y))∧t=st):HCalls cx.P 41 [LLDs l,.fn (.func k) [] caps] st fun e t=>e = .ret (ii (idxL f l 0))∧t=st:=by
 have ml:(l.map encLD).length=l.length:=by simp
 generalize hW:idxL f l 0=W
 unfold LLDs
 refine HCalls.less (sem_calls' cx (fn:=Tryz.f41) rfl rfl rfl rfl ?_)
 refine wk ?_
 (refine ⟨?_,?_,?_,?_,?_,?_⟩<;>try exact True.intro)
 refine sem_loop cx (ι:=Nat) (fun i=>i≤l.length∧idxL f (l.drop i) i=W) (fun i=>[(0,.sure,LLDs l),(1,.sure,.fn (.func k) [] caps),(7,.sure,ii l.length),(8,.sure,ii i)]) (fun _=>st) (fun i=>l.length - i) 0 ⟨by omega,hW⟩ Sub.go Subp.go ?_
 clear hW
 rintro i ⟨hi,hw⟩
 by_cases h1:i < l.length
 ·have C:=h l[i] (List.getElem_mem h1)
  have g:=getD_ld h1
  rw [idxL_drop f h1] at hw
  generalize l[i]=x at *
  cases hf:f x with
  |true=>
   rw [hf] at hw C
   subst hw
   refine wk (c1:=C) (e1:=g) ?_
   (refine ⟨?_,?_,?_,?_,?_,?_⟩<;>try exact True.intro)
  |false=>
   rw [hf] at hw C
   refine wk (c1:=C) (e1:=g) ?_
   (refine ⟨?_,?_,?_,?_,?_,?_⟩<;>try exact True.intro)
   exact Fin.mk ⟨i+1,⟨by omega,hw⟩,by omega,Sub.go,Subp.go⟩
 ·rw [idxL_end f (by omega)] at hw
  subst hw
  refine wk ?_
  (refine ⟨?_,?_,?_,?_,?_,?_⟩<;>try exact True.intro)
end Go.Proofs.Hk

set_option linter.unusedSimpArgs false
set_option linter.unusedVariables false
set_option maxRecDepth 4000
set_option maxRecDepth 4000
namespace Go.Proofs.Hk
open Go Go.Proofs
theorem atOne_spec (x y:LD) (r:Nat) (hy:y.path.length≤1000000):HCalls cx.P 42 [encLD y,.ptr r 0] [(r,.cells [LInts x.path,ii x.point] 50)] fun e t=>e = .ret (bb (sameLoc y x))∧t=[(r,.cells [LInts x.path,ii x.point] 50)]:=by
 have E:=eqInts_spec y.path x.path hy
 unfold sameLoc encLD encLD'
 generalize y.path=yp at *
 generalize y.point=yq at *
 generalize x.path=xp at *
 generalize x.point=xq at *
 generalize eqI yp xp=v at *
 refine HCalls.less (sem_calls' cx (fn:=Tryz.f42) rfl rfl rfl rfl ?_)
 refine wk (c1:=E) ?_
 (refine ⟨?_,?_,?_,?_,?_,?_⟩<;>try exact True.intro)
theorem At_spec (l:List LD) (x:LD) (hl:l.length≤1000000) (h:∀ y∈l,y.path.length≤1000000):Pur cx 20 [LLDs l,encLD x] (ii (idxL (fun y=>sameLoc y x) l 0)):=by
 have C:∀ r,HCalls cx.P 41 [LLDs l,.fn (.func 42) [] [.ptr r 0]] [(r,.cells [LInts x.path,ii x.point] 50)] fun e t=>e = .ret (ii (idxL (fun y=>sameLoc y x) l 0))∧t=[(r,.cells [LInts x.path,ii x.point] 50)]:=
  fun r=>idxLoc_spec 42 [.ptr r 0] _ (fun y=>sameLoc y x) (by rfl) l hl fun y hy=>atOne_spec x y r (h y hy)
 generalize idxL (fun y=>sameLoc y x) l 0=v at *
 unfold encLD encLD'
 generalize x.path=xp at *
 generalize x.point=xq at *
 unfold LLDs at *
 generalize l.map encLD=L at *
 refine Pur.ofW (sem_calls' cx (fn:=Tryz.f20) rfl rfl rfl rfl ?_)
 refine wk (c1:=C) ?_
 (refine ⟨?_,?_,?_,?_,?_,?_⟩<;>try exact True.intro)
theorem rSameLoc_spec (x y:LD) (hx:x.path.length≤1000000):Pur cx 35 [encLD x,encLD y] (bb (sameLoc x y)):=by
 have ma:(x.path.map ii).length=x.path.length:=by simp
 have mb:(y.path.map ii).length=y.path.length:=by simp
 generalize hW:sameLoc x y=W
 unfold sameLoc at hW
 unfold encLD encLD' LInts
 generalize x.path=a at *
 generalize y.path=b at *
 generalize x.point=p at *
 generalize y.point=q at *
 refine Pur.ofW (sem_calls' cx (fn:=Tryz.f35) rfl rfl rfl rfl ?_)
 by_cases hp:p=q
 ·by_cases hl:a.length=b.length
  ·rw [beq_iff_eq.2 hp,Bool.true_and] at hW
   refine wk ?_
   (refine ⟨?_,?_,?_,?_,?_,?_⟩<;>try exact True.intro)
   intro r1 r2 h2
   refine sem_loop cx (ι:=Nat) (fun i=>i≤a.length∧eqL (fun x y:Int=>x == y) (a.drop i) (b.drop i)=W) (fun i=>[(2,.sure,.ptr r1 0),(3,.sure,.ptr r2 0),(5,.sure,ii i)]) (fun _=>[(r1,.cells [.list .no 1 (a.map ii),ii p] 50),(r2,.cells [.list .no 1 (b.map ii),ii q] 50)]) (fun i=>a.length - i) 0 ⟨by omega,by simpa [eqI] using hW⟩ Sub.go Subp.go ?_
   clear hW
   rintro i ⟨hi,hw⟩
   by_cases h3:i < a.length
   ·have h4:i < b.length:=by omega
    have g1:=getD_int h3
    have g2:=getD_int h4
    rw [eqL_drop (fun x y:Int=>x == y) h3 h4] at hw
    generalize a[i]=x at *
    generalize b[i]=y at *
    cases he:(x == y) with
    |true=>
     rw [he] at hw
     have hn:=int_t he
     have hw:eqL (fun x y:Int=>x == y) (a.drop (i+1)) (b.drop (i+1))=W:=by simpa using hw
     refine wk (e1:=g1) (e2:=g2) ?_
     (refine ⟨?_,?_,?_,?_,?_,?_⟩<;>try exact True.intro)
     exact Fin.mk ⟨i+1,⟨by omega,hw⟩,by omega,Sub.go,Subp.go⟩
    |false=>
     rw [he] at hw
     have hn:=int_f he
     have hw:false=W:=by simpa using hw
     subst hw
     refine wk (e1:=g1) (e2:=g2) ?_
     (refine ⟨?_,?_,?_,?_,?_,?_⟩<;>try exact True.intro)
   ·rw [eqL_end (fun x y:Int=>x == y) (by omega) (by omega)] at hw
    subst hw
    refine wk ?_
    (refine ⟨?_,?_,?_,?_,?_,?_⟩<;>try exact True.intro)
  ·have hW:false=W:=by rw [←hW,eqI,eqL_len (fun x y:Int=>x == y) hl,Bool.and_false]
   subst hW
   refine wk ?_
   (refine ⟨?_,?_,?_,?_,?_,?_⟩<;>try exact True.intro)
 ·have hW:false=W:=by rw [←hW,beq_eq_false_iff_ne.2 hp,Bool.false_and]
  subst hW
  refine wk ?_
  (refine ⟨?_,?_,?_,?_,?_,?_⟩<;>try exact True.intro)
end Go.Proofs.Hk

set_option linter.unusedVariables false
set_option maxRecDepth 4000
set_option linter.unusedSimpArgs false
namespace Go.Proofs
open Go
theorem info9':Tryz.prog.info? 9=some Tryz.t9:=by kernel_rfl
theorem undSS:Tryz.prog.underlying 29=some (.slice 9):=by kernel_rfl
theorem und3:Tryz.prog.underlying 3=some (.int .i64):=by kernel_rfl
set_option maxHeartbeats 4000000 in
set_option maxRecDepth 100000 in
theorem grow_calls (n:Nat) (h0:0 < n) (hn:n≤1000000) (w:World):Calls Tryz.prog 126 #[.slice none 0 0,.int .i64 n] w fun e w'=>
  e = .returned (.slice (some ⟨w.heap.size,0,none⟩) 0 (grownCap w n 0 9))∧w'=w.drew.alloc (.cells (Builtin.zeroCells #[.string ⟨#[]⟩] n ++ Builtin.zeroCells #[.string ⟨#[]⟩] (grownCap w n 0 9 - n)) 9):=by
 have h1:¬ ((n:Int) < 0):=by omega
 have h4:(n:Int) > 0:=by omega
 have hbz:Tryz.t9.bytes=16:=by kernel_rfl
 have hsz:Tryz.t9.size=1:=by kernel_rfl
 have hGn:n≤grownCap w n 0 9:=grownCap_ge w _ _ _
 have hfit:¬ (281474976710656 < Builtin.nextslicecap n 0 * 16):=by
  have:=growslice_fits (need:=0+n) (old:=0) (bytes:=16) (by omega) (by omega)
  simp only [Nat.zero_add] at this
  omega
 go_enter Tryz.func126,Tryz.ntmps126
 go_wp2
 go_ret
 exact ⟨rfl,rfl⟩
set_option maxHeartbeats 4000000 in
set_option maxRecDepth 100000 in
theorem grow_calls0 (w:World):Calls Tryz.prog 126 #[.slice none 0 0,.int .i64 0] w fun e w'=>e = .returned (.slice none 0 0)∧w'=w:=by
 go_enter Tryz.func126,Tryz.ntmps126
 go_wp2
 go_ret
 exact ⟨rfl,rfl⟩
end Go.Proofs

set_option linter.unusedVariables false
set_option maxRecDepth 4000
set_option linter.unusedSimpArgs false
namespace Go.Proofs.Hk
open Go Go.Proofs
/-- slices.Grow of nil: an empty row of one's own. -/
theorem grow_new (n:Nat) (h0:0 < n) (hn:n≤1000000) (k:IntKind) (hk:k = .i64) (r:Nat):HCalls cx.P 126 [.v (.slice none 0 0),.v (.int k (.ofNat n))] [(r,.void)] fun e st=>e = .ret (.list (.own r 0) 1 [])∧st=[(r,.tok 0)]:=by
 subst hk
 refine ⟨fun G w vs hs ha=>?_⟩
 have hvs:vs = #[.slice none 0 0,.int .i64 n]:=by
  simp only [relVs_cons,relVs] at ha
  obtain ⟨u1,l1,e1,h1,u2,l2,e2,h2,e3⟩:=ha
  have a1:=rel_v_eq h1
  have a2:=rel_v_eq h2
  subst a1 a2 e3 e2
  rw [←Array.toArray_toList (xs:=vs),e1]
  rfl
 subst hvs
 obtain ⟨a0,a1,a2,a3⟩:=hs.holds r .void List.mem_cons_self
 refine (grow_calls n h0 hn w).mono fun e w' ⟨he,hw⟩=>?_
 subst he hw
 have post:=post_grown (w':=w.drew) (t:=9) (r:=r) (n:=0) (e:=0) (ce:=grownCap w n 0 9) (lim:=G.lim) (vs:=Builtin.zeroCells #[.string ⟨#[]⟩] n ++ Builtin.zeroCells #[.string ⟨#[]⟩] (grownCap w n 0 9 - n)) hs rfl rfl rfl rfl (s':=[(r,.tok 0)])
  (.inr ⟨by simp [keys],rfl,(hset_head _ _ _ _).symm,fun tp e=>by rw [a2] at e;cases e⟩) (by
   have:=grownCap_ge w n 0 9
   simp only [Array.size_append,zeroCells_size]
   simp
   omega)
 refine ⟨.ret (.list (.own r 0) 1 []),[(r,.tok 0)],_,⟨rfl,rfl⟩,?_,post⟩
 refine list_rel (by simp) (by simp only [relAts]) ?_
 exact ⟨⟨0,w.heap.size,0,_⟩,by simp only [Ghost.grown,if_true];rfl,by simp,fun _=>.inl ⟨rfl,by simp,by simp⟩⟩
theorem grow_nil:HCalls cx.P 126 [.v (.slice none 0 0),.v (.int .i64 0)] [] fun e st=>e = .ret (.v (.slice none 0 0))∧st=[]:=by
 refine ⟨fun G w vs hs ha=>?_⟩
 have hvs:vs = #[.slice none 0 0,.int .i64 0]:=by
  simp only [relVs_cons,relVs] at ha
  obtain ⟨u1,l1,e1,h1,u2,l2,e2,h2,e3⟩:=ha
  have a1:=rel_v_eq h1
  have a2:=rel_v_eq h2
  subst a1 a2 e3 e2
  rw [←Array.toArray_toList (xs:=vs),e1]
 subst hvs
 refine (grow_calls0 w).mono fun e w' ⟨he,hw⟩=>?_
 subst he hw
 exact ⟨_,[],G,⟨rfl,rfl⟩,rel_v G,.refl hs⟩
def isI64:IntKind→Bool
 |.i64=>true
 |_=>false
def libGrow (xs:List HV):Option LibR:=
 match xs with
 |[.v (.slice none 0 0),.v (.int k (.ofNat n))]=>match isI64 k && Nat.ble 1 n && Nat.ble n 1000000 with
  |true=>some (.new (fun r=>.list (.own r 0) 1 []) (fun _=>.tok 0))
  |false=>match isI64 k && Nat.beq n 0 with
   |true=>some (.val (.v (.slice none 0 0)))
   |false=>none
 |_=>none
noncomputable section
def cxR:Cx:={ cx with rows:=fun t=>Nat.beq t 22}
theorem Pur.lib {c:Cx} {f:FuncId} {xs:List HV} {x:HV} (h:Pur c f xs x):HCalls c.P f xs [] fun e st=>e = .ret x∧st=[]:=h.calls []
theorem isI64_eq {k:IntKind} (h:isI64 k=true):k = .i64:=by cases k<;>first|rfl|cases h
/-- One function's contracts. -/
def LibF (c:Cx) (f:FuncId) (q:List HV→Option LibR):Prop:=
 ∀ xs,(∀ x,q xs=some (.val x)→HCalls c.P f xs [] fun e st=>e = .ret x∧st=[])∧
  (∀ X Y,q xs=some (.new X Y)→∀ r,HCalls c.P f xs [(r,.void)] fun e st=>e = .ret (X r)∧st=[(r,Y r)])∧
  (∀ r k,q xs=some (.look r k)→∀ y x,k y=some x→HCalls c.P f xs [(r,y)] fun e st=>e = .ret x∧st=[(r,y)])∧
  (∀ r k,q xs=some (.turn r k)→∀ y z,k y=some z→HCalls c.P f xs [(r,y)] fun e st=>e = .ret (.tup [])∧st=[(r,z)])∧
  (∀ g,q xs=some (.st g)→∀ s x s',g s=some (x,s')→HCalls c.P f xs s fun e st=>e = .ret x∧st=s')
theorem libGrow_ok:LibF cx 126 libGrow:=by
 intro xs
 refine ⟨fun x h=>?_,fun X Y h r=>?_,fun r k h=>?_,fun r k h=>?_,fun g h=>?_⟩
 ·unfold libGrow at h
  split at h
  ·rename_i k n
   split at h
   ·cases h
   ·split at h
    ·rename_i hc
     simp only [Bool.and_eq_true] at hc
     have h1:=isI64_eq hc.1
     have h2:=Nat.eq_of_beq_eq_true hc.2
     subst h1 h2
     cases h
     exact grow_nil
    ·cases h
  ·cases h
 ·unfold libGrow at h
  split at h
  ·rename_i k n
   split at h
   ·rename_i hc
    simp only [Bool.and_eq_true] at hc
    cases h
    exact grow_new n (Nat.le_of_ble_eq_true hc.1.2) (Nat.le_of_ble_eq_true hc.2) k (isI64_eq hc.1.1) r
   ·split at h<;>cases h
  ·cases h
 all_goals
  unfold libGrow at h
  split at h
  ·split at h
   ·cases h
   ·split at h<;>cases h
  ·cases h
theorem LibOk.ite {c:Cx} {g:FuncId} {q:List HV→Option LibR} {lib:FuncId→List HV→Option LibR} (h1:LibF c g q) (h2:LibOk c lib):LibOk c (fun f xs=>match Nat.beq f g with|true=>q xs|false=>lib f xs):=by
 intro f xs
 simp only
 cases h:Nat.beq f g with
 |true=>have:=Nat.eq_of_beq_eq_true h;subst this;exact h1 xs
 |false=>exact h2 f xs
theorem LibOk.none (c:Cx):LibOk c (fun _ _=>none):=fun f xs=>⟨fun x h=>(by cases h),fun X Y h=>(by cases h),fun _ _ h=>(by cases h),fun _ _ h=>(by cases h),fun _ h=>(by cases h)⟩
def fTok {β:Sort _} (t:Tk) (k:HV→β):β:=forceI t.kind fun a=>forceL t.text.data.toList fun b=>forceN t.pos fun p=>k (.agg [.v (.int .i64 a),.v (.string ⟨⟨b⟩⟩),.v (.int .i64 (.ofNat p))])
theorem fTok_eq {β:Sort _} (t:Tk) (k:HV→β):fTok t k=k (tokD t):=by
 rw [fTok,forceI_eq,forceL_eq,forceN_eq];rfl
def fToks {β:Sort _} : List Tk→(List HV→β)→β
 |[],k=>k []
 |t::l,k=>fTok t fun x=>fToks l fun xs=>k (x::xs)
theorem fToks_eq {β:Sort _} : ∀ (l:List Tk) (k:List HV→β),fToks l k=k (l.map tokD)
 |[],_=>rfl
 |t::l,k=>by rw [fToks,fTok_eq,fToks_eq l];rfl
def fLex (r:Except (Int × Nat) (List Tk)):Option LibR:=
 match r with
 |.ok l=>fToks l fun l=>some (.val (.tup [.list .no 3 l,ii 0,ii 0]))
 |.error e=>forceI e.1 fun c=>forceN e.2 fun p=>some (.val (.tup [.list .no 3 [],.v (.int .i64 c),.v (.int .i64 (.ofNat p))]))
theorem fLex_eq (r:Except (Int × Nat) (List Tk)):fLex r=some (.val (lexV r)):=by
 cases r with
 |ok l=>simp only [fLex,fToks_eq,lexV]
 |error e=>obtain ⟨c,p⟩:=e;simp only [fLex,forceI_eq,forceN_eq,lexV];rfl
def libLex (xs:List HV):Option LibR:=
 match xs with
 |[.v (.string s)]=>fLex (lexR s)
 |_=>none
theorem libLex_ok:LibF cx 37 libLex:=by
 intro xs
 refine ⟨fun x h=>?_,fun X Y h r=>?_,fun r k h=>?_,fun r k h=>?_,fun g h=>?_⟩
 ·unfold libLex at h
  split at h
  ·rename_i s
   rw [fLex_eq] at h
   cases h
   exact (Lex_spec s).lib
  ·cases h
 all_goals
  unfold libLex at h
  split at h
  ·rw [fLex_eq] at h;cases h
  ·cases h
def lib0 (f:FuncId) (xs:List HV):Option LibR:=
 match Nat.beq f 126 with
 |true=>libGrow xs
 |false=>none
theorem lib0_ok:LibOk cx lib0:=LibOk.ite libGrow_ok (LibOk.none cx)
theorem lib0_okR:LibOk cxR lib0:=lib0_ok
/-- The answer is true. -/
def okRs:Rs→Bool
 |.ret (.v (.bool true)) _ _=>true
 |_=>false
theorem okRs_ret {r:Rs} (h:okRs r=true):∃ s j,r = .ret (.v (.bool true)) s j:=by
 unfold okRs at h
 split at h
 ·exact ⟨_,_,rfl⟩
 ·cases h
theorem run_true {c:Cx} {lib:FuncId→List HV→Option LibR} (hlib:LibOk c lib) {m K d:Nat} {f:FuncId} {xs:List HV} (h:okRs (run c lib m (.call f xs) [] 0 K d)=true) (hxs:namelessL xs=true):Pur c f xs (.v (.bool true)):=by
 obtain ⟨s,j,e⟩:=okRs_ret h
 exact run_pur hlib m K d e hxs rfl
abbrev KK:Nat:=2 ^ (24 * 31)
theorem awake14R:Pur cxR 9 [] (.v (.bool true)):=run_true lib0_okR (m:=100000) (K:=KK) (d:=30) (by kernel_rfl) rfl
theorem awake14:Pur cx 9 [] (.v (.bool true)):=⟨awake14R.out⟩
end
end Go.Proofs.Hk

set_option linter.unusedSimpArgs false
set_option linter.unusedVariables false
set_option maxRecDepth 4000
set_option maxRecDepth 4000
namespace Go.Proofs.Hk
open Go Go.Proofs
theorem rAt_spec (l:List LD) (x:LD) (hl:l.length≤1000000) (h:∀ y∈l,y.path.length≤1000000):Pur cx 21 [LLDs l,encLD x] (ii (idxL (fun y=>sameLoc y x) l 0)):=by
 have ml:(l.map encLD).length=l.length:=by simp
 have C:∀ y∈l,Pur cx 35 [encLD y,.agg [LInts x.path,ii x.point]] (bb (sameLoc y x)):=fun y hy=>rSameLoc_spec y x (h y hy)
 generalize hW:idxL (fun y=>sameLoc y x) l 0=W
 rw [show encLD x = .agg [LInts x.path,ii x.point] from rfl]
 unfold LLDs
 refine Pur.ofW (sem_calls' cx (fn:=Tryz.f21) rfl rfl rfl rfl ?_)
 refine wk ?_
 (refine ⟨?_,?_,?_,?_,?_,?_⟩<;>try exact True.intro)
 intro r
 refine sem_loop cx (ι:=Nat) (fun i=>i≤l.length∧idxL (fun y=>sameLoc y x) (l.drop i) i=W) (fun i=>[(0,.sure,LLDs l),(3,.sure,.ptr r 0),(5,.sure,ii i)]) (fun _=>[(r,.cells [LInts x.path,ii x.point] 50)]) (fun i=>l.length - i) 0 ⟨by omega,hW⟩ Sub.go Subp.go ?_
 clear hW
 rintro i ⟨hi,hw⟩
 by_cases h1:i < l.length
 ·have C:=C l[i] (List.getElem_mem h1)
  have g:=getD_ld h1
  rw [idxL_drop _ h1] at hw
  generalize l[i]=y at *
  unfold encLD' at g
  cases hf:sameLoc y x with
  |true=>
   rw [hf] at C
   simp only [hf,if_true] at hw
   subst hw
   refine wk (c1:=C) (e1:=g) ?_
   (refine ⟨?_,?_,?_,?_,?_,?_⟩<;>try exact True.intro)
  |false=>
   rw [hf] at C
   simp only [hf,if_false] at hw
   refine wk (c1:=C) (e1:=g) ?_
   (refine ⟨?_,?_,?_,?_,?_,?_⟩<;>try exact True.intro)
   exact Fin.mk ⟨i+1,⟨by omega,hw⟩,by omega,Sub.go,Subp.go⟩
 ·rw [idxL_end _ (by omega)] at hw
  subst hw
  refine wk ?_
  (refine ⟨?_,?_,?_,?_,?_,?_⟩<;>try exact True.intro)
/-- Is a path too long? -/
def longL:List LD→Bool
 |[]=>false
 |y::l=>decide (y.path.length > 100)||longL l
theorem longL_f:∀ {l:List LD},longL l=false→∀ y∈l,y.path.length≤100
 |[],_,y,h=>by cases h
 |x::l,h,y,hy=>by
  rw [longL,Bool.or_eq_false_iff,decide_eq_false_iff_not] at h
  rcases List.mem_cons.1 hy with rfl|hy
  ·omega
  ·exact longL_f h.2 y hy
theorem PlaceAts_pur (l:List LD) (x:LD):Pur cx 6 [LLDs l,encLD x] (bb true):=by
 have ml:(l.map encLD).length=l.length:=by simp
 have mx:(x.path.map ii).length=x.path.length:=by simp
 have A:=awake14
 have ex:encLD x = .agg [.list .no 1 (x.path.map ii),ii x.point]:=rfl
 have C1:l.length≤1000000→longL l=false→Pur cx 20 [LLDs l,encLD x] (ii (idxL (fun y=>sameLoc y x) l 0)):=fun h1 h=>At_spec l x h1 fun y hy=>by have:=longL_f h y hy;omega
 have C2:l.length≤1000000→longL l=false→Pur cx 21 [LLDs l,encLD x] (ii (idxL (fun y=>sameLoc y x) l 0)):=fun h1 h=>rAt_spec l x h1 fun y hy=>by have:=longL_f h y hy;omega
 generalize idxL (fun y=>sameLoc y x) l 0=v at *
 rw [ex] at *
 generalize x.path=xp at *
 generalize x.point=xq at *
 unfold LLDs at *
 refine Pur.ofW (sem_calls' cx (fn:=Tryz.f6) rfl rfl rfl rfl ?_)
 by_cases h0:l.length > 100
 ·refine wk (c1:=A) ?_
  (refine ⟨?_,?_,?_,?_,?_,?_⟩<;>try exact True.intro)
 ·by_cases h1:xp.length > 100
  ·refine wk (c1:=A) ?_
   (refine ⟨?_,?_,?_,?_,?_,?_⟩<;>try exact True.intro)
  ·generalize hW:longL l=W at *
   refine wk ?_
   (refine ⟨?_,?_,?_,?_,?_,?_⟩<;>try exact True.intro)
   intro r
   refine sem_loop cx (ι:=Nat) (fun i=>i≤l.length∧longL (l.drop i)=W) (fun i=>[(0,.sure,LLDs l),(3,.sure,.ptr r 0),(5,.sure,ii i)]) (fun _=>[(r,.cells [LInts xp,ii xq] 50)]) (fun i=>l.length - i) 0 ⟨by omega,hW⟩ Sub.go Subp.go ?_
   clear hW
   rintro i ⟨hi,hw⟩
   by_cases h3:i < l.length
   ·have g:=getD_ld h3
    rw [drop_cons h3,longL] at hw
    generalize l[i]=y at *
    unfold encLD' LInts at g
    have my:(y.path.map ii).length=y.path.length:=by simp
    by_cases h4:y.path.length > 100
    ·refine wk (c1:=A) (e1:=g) ?_
     (refine ⟨?_,?_,?_,?_,?_,?_⟩<;>try exact True.intro)
    ·rw [decide_eq_false h4,Bool.false_or] at hw
     refine wk (c1:=A) (e1:=g) ?_
     (refine ⟨?_,?_,?_,?_,?_,?_⟩<;>try exact True.intro)
     exact Fin.mk ⟨i+1,⟨by omega,hw⟩,by omega,Sub.go,Subp.go⟩
   ·rw [drop_nil' (by omega),longL] at hw
    have C1:=C1 (by omega) hw.symm
    have C2:=C2 (by omega) hw.symm
    have hv:(v == v)=true:=by simp
    refine wk (c1:=A) (c2:=C1) (c3:=C2) (e1:=hv) ?_
    (refine ⟨?_,?_,?_,?_,?_,?_⟩<;>try exact True.intro)
end Go.Proofs.Hk

set_option linter.unusedSimpArgs false
set_option linter.unusedVariables false
set_option maxRecDepth 4000
namespace Go.Proofs.YtdkkmmdghfbnaaaGreatDoor
open Go Go.Proofs.Hk Go.RowKit Go.WideShapes Go.ChangeShapes
theorem Tryz.cells3:Tryz.prog.cellsOf 3=1:=by kernel_rfl
theorem Tryz.cells48:Tryz.prog.cellsOf 48=1:=by kernel_rfl
theorem Tryz.cells28:Tryz.prog.cellsOf 28=1:=by kernel_rfl
theorem Tryz.cells50:Tryz.prog.cellsOf 50=2:=by kernel_rfl
section
variable {H:Type} {enc:TypeId × Value→H} {w:World}
theorem len2 {α:Type} {l:List α} (h:l.length=2):∃ a b,l=[a,b]:=by
 match l,h with
 |[a,b],_=>exact ⟨a,b,rfl⟩
theorem opLoc:Opens enc Tryz.prog w 50 LD encLD (fun _=>True):=by
 refine ⟨fun _=>by simp [HV.kd,encLD,encLD'],fun fuel cs d h=>?_⟩
 obtain ⟨hl,⟨f0,y0,h0⟩,⟨f1,y1,h1⟩,_⟩:=struct_of Tryz.underlying50 h
 rw [Tryz.cells50] at hl
 obtain ⟨c0,c1,rfl⟩:=len2 hl
 simp only [Tryz.cells3,Tryz.cells48] at h0 h1
 obtain ⟨p,_,r0⟩:=(opens_slice Tryz.underlying48 Tryz.cells3 (by decide) (opens_int Tryz.underlying3)).2 _ _ _ h0
 obtain ⟨q,_,r1⟩:=(opens_int Tryz.underlying3).2 _ _ _ h1
 refine ⟨⟨p,q⟩,trivial,?_⟩
 simp only [encLD,encLD',relC,relCs]
 exact ⟨c0,_,rfl,⟨rfl,r0⟩,c1,_,rfl,⟨rfl,r1⟩,rfl⟩
theorem opLocs:Opens enc Tryz.prog w 28 (List LD) LLDs (fun l=>(∀ x∈l,True)∧l.length≤maxLen):=opens_slice Tryz.underlying28 Tryz.cells50 (by decide) opLoc
end
theorem PlaceAts_args (l:List LD) (_:(∀ x∈l,True)∧l.length≤maxLen) (x:LD) (_:True):Pur cx 6 [LLDs l,encLD x] (bb true):=PlaceAts_pur l x
end Go.Proofs.YtdkkmmdghfbnaaaGreatDoor

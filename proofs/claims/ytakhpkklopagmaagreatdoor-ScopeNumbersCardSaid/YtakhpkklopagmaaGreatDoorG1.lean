import Derived.Test.YtakhpkklopagmaaGreatDoorE11
import Derived.Test.YtakhpkklopagmaaGreatDoorCX
import Derived.WalkKit
import Derived.Lib.Walk
import Derived.Lib.SliceRun
import Derived.Lib.AppendZerosOnto
import Derived.Test.YtakhpkklopagmaaGreatDoorH41
set_option linter.unusedVariables false
set_option linter.unusedSimpArgs false
namespace Go.Proofs
open Go
theorem info9':Tryz.prog.info? 9=some Tryz.t9:=by kernel_rfl
theorem und41:Tryz.prog.underlying 41=some (.slice 9):=by kernel_rfl
theorem und3:Tryz.prog.underlying 3=some (.int .i64):=by kernel_rfl
set_option maxHeartbeats 4000000 in
set_option maxRecDepth 100000 in
theorem grow_calls (n:Nat) (h0:0 < n) (hn:n≤1000000) (w:World):Calls Tryz.prog 90 #[.slice none 0 0,.int .i64 n] w fun e w'=>
  e = .returned (.slice (some ⟨w.heap.size,0,none⟩) 0 (grownCap w n 0 9))∧w'=w.drew.alloc (.cells (Builtin.zeroCells #[.string ⟨#[]⟩] n ++ Builtin.zeroCells #[.string ⟨#[]⟩] (grownCap w n 0 9 - n)) 9):=by
 have h1:¬ ((n:Int) < 0):=by omega
 have h4:(n:Int) > 0:=by omega
 have hbz:Tryz.t9.bytes=16:=by kernel_rfl
 have hsz:Tryz.t9.size=1:=by kernel_rfl
 have hGn:n≤grownCap w n 0 9:=grownCap_ge w _ _ _
 have hfit:¬ (281474976710656 < Builtin.nextslicecap n 0 * 16):=by
  have:=growslice_fits (need:=0+n) (old:=0) (bytes:=16) (by omega) (by omega)
  simp only [Nat.zero_add] at this
  omega
 go_enter Tryz.func90,Tryz.ntmps90
 go_wp2
 go_ret
 exact ⟨rfl,rfl⟩
set_option maxHeartbeats 4000000 in
set_option maxRecDepth 100000 in
theorem grow_calls0 (w:World):Calls Tryz.prog 90 #[.slice none 0 0,.int .i64 0] w fun e w'=>e = .returned (.slice none 0 0)∧w'=w:=by
 go_enter Tryz.func90,Tryz.ntmps90
 go_wp2
 go_ret
 exact ⟨rfl,rfl⟩
end Go.Proofs

set_option linter.unusedSimpArgs false
set_option linter.unusedVariables false
set_option maxRecDepth 4000
set_option maxRecDepth 4000
namespace Go.Proofs.Hk
open Go Go.Proofs
theorem cloneS_e (tk:Tok):Pur cx 58 [.list tk 1 []] (.list .full 1 []):=by
 refine Pur.ofW (sem_calls' cx (fn:=Tryz.f58) rfl rfl rfl rfl ?_)
 repeat' first|refine Ops.tag rfl ?_|((with_reducible first|refine OpsT.yes ?_|refine OpsT.yes' ?_);(conv=>arg 7;whnf))|(with_reducible first|refine OpsT.andT ?_|refine OpsT.andF ?_|refine OpsT.no ?_|refine OpsT.no' ?_)|(refine OpsT.go ?_;(conv=>arg 7;whnf))|(with_reducible first|refine Stp.orF ?_|refine Stp.orT ?_|refine Stp.andT ?_|refine Stp.andF ?_|refine Stp.notT ?_|refine Stp.notF ?_|refine Stp.andT2 ?_|refine Stp.orF2 ?_)|((with_reducible refine Stp.isSum ?_);refine Stp.sum ?_)|((with_reducible refine Stp.isSumU ?_);refine Stp.sumU ?_)|((with_reducible refine Stp.isSum3 ?_);refine Stp.sum3 ?_)|((with_reducible refine Stp.isDec ?_);first|refine Stp.decT ?_|refine Stp.decF ?_)|((with_reducible refine Stp.isEq ?_);first|refine Stp.eqT ?_|refine Stp.eqF ?_)|((with_reducible refine Stp.isNe ?_);first|refine Stp.neT ?_|refine Stp.neF ?_)|refine Stp.pure rfl ?_|((with_reducible refine PutK.isSet ?_);refine PutK.set (by repeat first|exact HsetIs.hit|apply HsetIs.miss (by first|assumption|(apply Ne.symm;assumption)|omega)) ?_)|refine PutK.mk' rfl ?_|refine Ops.nil ?_|(refine DOps.cons rfl rfl ?_;(conv=>arg 7;whnf))|(with_reducible first|refine DStp.orF ?_|refine DStp.orT ?_|refine DStp.andT ?_|refine DStp.andF ?_|refine DStp.notT ?_|refine DStp.notF ?_|refine DStp.andT2 ?_|refine DStp.orF2 ?_)|((with_reducible refine DStp.isSum ?_);refine DStp.sum ?_)|((with_reducible refine DStp.isSumU ?_);refine DStp.sumU ?_)|((with_reducible refine DStp.isSum3 ?_);refine DStp.sum3 ?_)|((with_reducible refine DStp.isDec ?_);first|refine DStp.decT ?_|refine DStp.decF ?_)|((with_reducible refine DStp.isEq ?_);first|refine DStp.eqT ?_|refine DStp.eqF ?_)|((with_reducible refine DStp.isNe ?_);first|refine DStp.neT ?_|refine DStp.neF ?_)|refine DStp.pure rfl ?_|refine DStp.dead rfl ?_|refine PutD.mk' rfl ?_|refine DOps.nil rfl ?_|((with_reducible refine Look.id ?_);refine Look.auto ?_ (by repeat first|exact HGet.hit|apply HGet.miss (by first|assumption|(apply Ne.symm;assumption)|omega));try (conv=>arg 7;whnf))|((with_reducible refine Side.id ?_);first|refine Side.auto ?_)|((with_reducible refine Br.id ?_);first|(with_reducible first|refine br_true rfl ?_|refine br_false rfl ?_)|refine br_true (by with_reducible assumption) ?_|refine br_false (by with_reducible assumption) ?_|refine br_dec_t (by with_reducible assumption) ?_|refine br_dec_f (by with_reducible assumption) ?_|refine br_beq_t (by with_reducible assumption) ?_|refine br_beq_f (by with_reducible assumption) ?_|refine br_bne_t (by with_reducible assumption) ?_|refine br_bne_f (by with_reducible assumption) ?_|refine br_true rfl ?_|refine br_false rfl ?_|refine br_dec (fun _=>?_) (fun _=>?_)|refine br_beq (fun _=>?_) (fun _=>?_)|refine br_bne (fun _=>?_) (fun _=>?_)|refine br_split (fun _=>?_) (fun _=>?_))|((with_reducible refine SemWp.id ?_);first|refine sem_seq ?_|refine sem_region rfl ?_|refine sem_cond rfl ?_|refine sem_block ?_|refine sem_exit ?_|refine sem_ret ?_|refine sem_skip ?_|refine sem_label ?_|refine sem_draw ?_|refine sem_scope ?_)|((with_reducible refine qThen.id ?_);first|refine qThen.go ?_|refine qThen.ret ?_|refine qThen.exit ?_|refine qThen.pan ?_)|((with_reducible refine hinBlock.id ?_);first|refine hinBlock.go ?_|refine hinBlock.ret ?_|refine hinBlock.pan ?_|refine hinBlock.here rfl ?_|refine hinBlock.on rfl ?_)|((with_reducible refine hround.id ?_);first|refine hround.go ?_|refine hround.ret ?_|refine hround.exit ?_|refine hround.pan ?_)|((with_reducible refine bodyQ.id ?_);first|refine bodyQ.ret rfl ?_|refine bodyQ.ret2 rfl ?_|refine bodyQ.ret0 rfl ?_|refine bodyQ.go ?_|refine bodyQ.pan ?_)|refine Stp.valS ?_|refine Stp.valSC ?_|refine Stp.look ?_|refine Stp.call ?_|refine Stp.callC ?_|refine Stp.eff ?_|refine Stp.effC ?_|refine Stp.pan ?_|refine Stp.panC ?_|refine DStp.valS ?_|refine DStp.valSC ?_|refine DStp.look ?_|refine DStp.call ?_|refine DStp.callC ?_|((with_reducible refine CallC.id ?_);first|refine CallC.two ?_)|((with_reducible refine DrawReg.id ?_);refine drawQ' cx (by decide +kernel) rfl ?_)|(refine newN (fun r hr=>?_);simp only [keys,List.nil_append,List.cons_append,List.map_cons,List.map_nil,List.mem_cons,List.not_mem_nil,not_or,or_false,not_false_eq_true] at hr)|((with_reducible refine SeqD.id ?_);first|refine SeqD.go ?_|refine SeqD.ret ?_)|(with_reducible refine semD_seq cx ?_)|((with_reducible refine BodyR.id ?_);first|refine BodyR.ret ?_|refine BodyR.go ?_|refine BodyR.pan ?_)|((with_reducible refine ResG.id ?_);first|refine ResG.tmp rfl ?_|refine ResG.cell rfl ?_|refine ResG.nil ?_)|((with_reducible refine LoadIs.id ?_);first|refine LoadIs.agg (by repeat first|exact HGet.hit|apply HGet.miss (by first|assumption|(apply Ne.symm;assumption)|omega)) rfl rfl rfl ?_|refine LoadIs.one (by repeat first|exact HGet.hit|apply HGet.miss (by first|assumption|(apply Ne.symm;assumption)|omega)) rfl rfl rfl rfl ?_)|((with_reducible refine Upd.id ?_);first|(refine Upd.lit rfl ?_;(conv=>whnf))|refine Upd.set (by omega) ?_|refine Upd.set (by (simp only [List.length_map,List.length_set,List.length_replicate];omega)) ?_)|((with_reducible refine Grow2.id ?_);refine Grow2.own ?_)|refine newCap (fun cap hcap=>?_)|refine newB (fun b hb=>?_)|refine grow_split (fun _=>?_) (fun _=>?_)|fail
 ·exact Fin.mk ⟨_,rfl,Weaker.nilFull _⟩
 ·exact Fin.mk ⟨_,rfl,Weaker.refl _⟩
theorem cloneS_n:Pur cx 58 [.v (.slice none 0 0)] (.list .full 1 []):=by
 refine Pur.ofW (sem_calls' cx (fn:=Tryz.f58) rfl rfl rfl rfl ?_)
 repeat' first|refine Ops.tag rfl ?_|((with_reducible first|refine OpsT.yes ?_|refine OpsT.yes' ?_);(conv=>arg 7;whnf))|(with_reducible first|refine OpsT.andT ?_|refine OpsT.andF ?_|refine OpsT.no ?_|refine OpsT.no' ?_)|(refine OpsT.go ?_;(conv=>arg 7;whnf))|(with_reducible first|refine Stp.orF ?_|refine Stp.orT ?_|refine Stp.andT ?_|refine Stp.andF ?_|refine Stp.notT ?_|refine Stp.notF ?_|refine Stp.andT2 ?_|refine Stp.orF2 ?_)|((with_reducible refine Stp.isSum ?_);refine Stp.sum ?_)|((with_reducible refine Stp.isSumU ?_);refine Stp.sumU ?_)|((with_reducible refine Stp.isSum3 ?_);refine Stp.sum3 ?_)|((with_reducible refine Stp.isDec ?_);first|refine Stp.decT ?_|refine Stp.decF ?_)|((with_reducible refine Stp.isEq ?_);first|refine Stp.eqT ?_|refine Stp.eqF ?_)|((with_reducible refine Stp.isNe ?_);first|refine Stp.neT ?_|refine Stp.neF ?_)|refine Stp.pure rfl ?_|((with_reducible refine PutK.isSet ?_);refine PutK.set (by repeat first|exact HsetIs.hit|apply HsetIs.miss (by first|assumption|(apply Ne.symm;assumption)|omega)) ?_)|refine PutK.mk' rfl ?_|refine Ops.nil ?_|(refine DOps.cons rfl rfl ?_;(conv=>arg 7;whnf))|(with_reducible first|refine DStp.orF ?_|refine DStp.orT ?_|refine DStp.andT ?_|refine DStp.andF ?_|refine DStp.notT ?_|refine DStp.notF ?_|refine DStp.andT2 ?_|refine DStp.orF2 ?_)|((with_reducible refine DStp.isSum ?_);refine DStp.sum ?_)|((with_reducible refine DStp.isSumU ?_);refine DStp.sumU ?_)|((with_reducible refine DStp.isSum3 ?_);refine DStp.sum3 ?_)|((with_reducible refine DStp.isDec ?_);first|refine DStp.decT ?_|refine DStp.decF ?_)|((with_reducible refine DStp.isEq ?_);first|refine DStp.eqT ?_|refine DStp.eqF ?_)|((with_reducible refine DStp.isNe ?_);first|refine DStp.neT ?_|refine DStp.neF ?_)|refine DStp.pure rfl ?_|refine DStp.dead rfl ?_|refine PutD.mk' rfl ?_|refine DOps.nil rfl ?_|((with_reducible refine Look.id ?_);refine Look.auto ?_ (by repeat first|exact HGet.hit|apply HGet.miss (by first|assumption|(apply Ne.symm;assumption)|omega));try (conv=>arg 7;whnf))|((with_reducible refine Side.id ?_);first|refine Side.auto ?_)|((with_reducible refine Br.id ?_);first|(with_reducible first|refine br_true rfl ?_|refine br_false rfl ?_)|refine br_true (by with_reducible assumption) ?_|refine br_false (by with_reducible assumption) ?_|refine br_dec_t (by with_reducible assumption) ?_|refine br_dec_f (by with_reducible assumption) ?_|refine br_beq_t (by with_reducible assumption) ?_|refine br_beq_f (by with_reducible assumption) ?_|refine br_bne_t (by with_reducible assumption) ?_|refine br_bne_f (by with_reducible assumption) ?_|refine br_true rfl ?_|refine br_false rfl ?_|refine br_dec (fun _=>?_) (fun _=>?_)|refine br_beq (fun _=>?_) (fun _=>?_)|refine br_bne (fun _=>?_) (fun _=>?_)|refine br_split (fun _=>?_) (fun _=>?_))|((with_reducible refine SemWp.id ?_);first|refine sem_seq ?_|refine sem_region rfl ?_|refine sem_cond rfl ?_|refine sem_block ?_|refine sem_exit ?_|refine sem_ret ?_|refine sem_skip ?_|refine sem_label ?_|refine sem_draw ?_|refine sem_scope ?_)|((with_reducible refine qThen.id ?_);first|refine qThen.go ?_|refine qThen.ret ?_|refine qThen.exit ?_|refine qThen.pan ?_)|((with_reducible refine hinBlock.id ?_);first|refine hinBlock.go ?_|refine hinBlock.ret ?_|refine hinBlock.pan ?_|refine hinBlock.here rfl ?_|refine hinBlock.on rfl ?_)|((with_reducible refine hround.id ?_);first|refine hround.go ?_|refine hround.ret ?_|refine hround.exit ?_|refine hround.pan ?_)|((with_reducible refine bodyQ.id ?_);first|refine bodyQ.ret rfl ?_|refine bodyQ.ret2 rfl ?_|refine bodyQ.ret0 rfl ?_|refine bodyQ.go ?_|refine bodyQ.pan ?_)|refine Stp.valS ?_|refine Stp.valSC ?_|refine Stp.look ?_|refine Stp.call ?_|refine Stp.callC ?_|refine Stp.eff ?_|refine Stp.effC ?_|refine Stp.pan ?_|refine Stp.panC ?_|refine DStp.valS ?_|refine DStp.valSC ?_|refine DStp.look ?_|refine DStp.call ?_|refine DStp.callC ?_|((with_reducible refine CallC.id ?_);first|refine CallC.two ?_)|((with_reducible refine DrawReg.id ?_);refine drawQ' cx (by decide +kernel) rfl ?_)|(refine newN (fun r hr=>?_);simp only [keys,List.nil_append,List.cons_append,List.map_cons,List.map_nil,List.mem_cons,List.not_mem_nil,not_or,or_false,not_false_eq_true] at hr)|((with_reducible refine SeqD.id ?_);first|refine SeqD.go ?_|refine SeqD.ret ?_)|(with_reducible refine semD_seq cx ?_)|((with_reducible refine BodyR.id ?_);first|refine BodyR.ret ?_|refine BodyR.go ?_|refine BodyR.pan ?_)|((with_reducible refine ResG.id ?_);first|refine ResG.tmp rfl ?_|refine ResG.cell rfl ?_|refine ResG.nil ?_)|((with_reducible refine LoadIs.id ?_);first|refine LoadIs.agg (by repeat first|exact HGet.hit|apply HGet.miss (by first|assumption|(apply Ne.symm;assumption)|omega)) rfl rfl rfl ?_|refine LoadIs.one (by repeat first|exact HGet.hit|apply HGet.miss (by first|assumption|(apply Ne.symm;assumption)|omega)) rfl rfl rfl rfl ?_)|((with_reducible refine Upd.id ?_);first|(refine Upd.lit rfl ?_;(conv=>whnf))|refine Upd.set (by omega) ?_|refine Upd.set (by (simp only [List.length_map,List.length_set,List.length_replicate];omega)) ?_)|((with_reducible refine Grow2.id ?_);refine Grow2.own ?_)|refine newCap (fun cap hcap=>?_)|refine newB (fun b hb=>?_)|refine grow_split (fun _=>?_) (fun _=>?_)|fail
 ·exact Fin.mk ⟨_,rfl,Weaker.nilFull _⟩
 ·exact Fin.mk ⟨_,rfl,Weaker.refl _⟩
theorem cloneN_e (tk:Tok):Pur cx 151 [.list tk 5 []] (.list .full 5 []):=by
 refine Pur.ofW (sem_calls' cx (fn:=Tryz.f151) rfl rfl rfl rfl ?_)
 repeat' first|refine Ops.tag rfl ?_|((with_reducible first|refine OpsT.yes ?_|refine OpsT.yes' ?_);(conv=>arg 7;whnf))|(with_reducible first|refine OpsT.andT ?_|refine OpsT.andF ?_|refine OpsT.no ?_|refine OpsT.no' ?_)|(refine OpsT.go ?_;(conv=>arg 7;whnf))|(with_reducible first|refine Stp.orF ?_|refine Stp.orT ?_|refine Stp.andT ?_|refine Stp.andF ?_|refine Stp.notT ?_|refine Stp.notF ?_|refine Stp.andT2 ?_|refine Stp.orF2 ?_)|((with_reducible refine Stp.isSum ?_);refine Stp.sum ?_)|((with_reducible refine Stp.isSumU ?_);refine Stp.sumU ?_)|((with_reducible refine Stp.isSum3 ?_);refine Stp.sum3 ?_)|((with_reducible refine Stp.isDec ?_);first|refine Stp.decT ?_|refine Stp.decF ?_)|((with_reducible refine Stp.isEq ?_);first|refine Stp.eqT ?_|refine Stp.eqF ?_)|((with_reducible refine Stp.isNe ?_);first|refine Stp.neT ?_|refine Stp.neF ?_)|refine Stp.pure rfl ?_|((with_reducible refine PutK.isSet ?_);refine PutK.set (by repeat first|exact HsetIs.hit|apply HsetIs.miss (by first|assumption|(apply Ne.symm;assumption)|omega)) ?_)|refine PutK.mk' rfl ?_|refine Ops.nil ?_|(refine DOps.cons rfl rfl ?_;(conv=>arg 7;whnf))|(with_reducible first|refine DStp.orF ?_|refine DStp.orT ?_|refine DStp.andT ?_|refine DStp.andF ?_|refine DStp.notT ?_|refine DStp.notF ?_|refine DStp.andT2 ?_|refine DStp.orF2 ?_)|((with_reducible refine DStp.isSum ?_);refine DStp.sum ?_)|((with_reducible refine DStp.isSumU ?_);refine DStp.sumU ?_)|((with_reducible refine DStp.isSum3 ?_);refine DStp.sum3 ?_)|((with_reducible refine DStp.isDec ?_);first|refine DStp.decT ?_|refine DStp.decF ?_)|((with_reducible refine DStp.isEq ?_);first|refine DStp.eqT ?_|refine DStp.eqF ?_)|((with_reducible refine DStp.isNe ?_);first|refine DStp.neT ?_|refine DStp.neF ?_)|refine DStp.pure rfl ?_|refine DStp.dead rfl ?_|refine PutD.mk' rfl ?_|refine DOps.nil rfl ?_|((with_reducible refine Look.id ?_);refine Look.auto ?_ (by repeat first|exact HGet.hit|apply HGet.miss (by first|assumption|(apply Ne.symm;assumption)|omega));try (conv=>arg 7;whnf))|((with_reducible refine Side.id ?_);first|refine Side.auto ?_)|((with_reducible refine Br.id ?_);first|(with_reducible first|refine br_true rfl ?_|refine br_false rfl ?_)|refine br_true (by with_reducible assumption) ?_|refine br_false (by with_reducible assumption) ?_|refine br_dec_t (by with_reducible assumption) ?_|refine br_dec_f (by with_reducible assumption) ?_|refine br_beq_t (by with_reducible assumption) ?_|refine br_beq_f (by with_reducible assumption) ?_|refine br_bne_t (by with_reducible assumption) ?_|refine br_bne_f (by with_reducible assumption) ?_|refine br_true rfl ?_|refine br_false rfl ?_|refine br_dec (fun _=>?_) (fun _=>?_)|refine br_beq (fun _=>?_) (fun _=>?_)|refine br_bne (fun _=>?_) (fun _=>?_)|refine br_split (fun _=>?_) (fun _=>?_))|((with_reducible refine SemWp.id ?_);first|refine sem_seq ?_|refine sem_region rfl ?_|refine sem_cond rfl ?_|refine sem_block ?_|refine sem_exit ?_|refine sem_ret ?_|refine sem_skip ?_|refine sem_label ?_|refine sem_draw ?_|refine sem_scope ?_)|((with_reducible refine qThen.id ?_);first|refine qThen.go ?_|refine qThen.ret ?_|refine qThen.exit ?_|refine qThen.pan ?_)|((with_reducible refine hinBlock.id ?_);first|refine hinBlock.go ?_|refine hinBlock.ret ?_|refine hinBlock.pan ?_|refine hinBlock.here rfl ?_|refine hinBlock.on rfl ?_)|((with_reducible refine hround.id ?_);first|refine hround.go ?_|refine hround.ret ?_|refine hround.exit ?_|refine hround.pan ?_)|((with_reducible refine bodyQ.id ?_);first|refine bodyQ.ret rfl ?_|refine bodyQ.ret2 rfl ?_|refine bodyQ.ret0 rfl ?_|refine bodyQ.go ?_|refine bodyQ.pan ?_)|refine Stp.valS ?_|refine Stp.valSC ?_|refine Stp.look ?_|refine Stp.call ?_|refine Stp.callC ?_|refine Stp.eff ?_|refine Stp.effC ?_|refine Stp.pan ?_|refine Stp.panC ?_|refine DStp.valS ?_|refine DStp.valSC ?_|refine DStp.look ?_|refine DStp.call ?_|refine DStp.callC ?_|((with_reducible refine CallC.id ?_);first|refine CallC.two ?_)|((with_reducible refine DrawReg.id ?_);refine drawQ' cx (by decide +kernel) rfl ?_)|(refine newN (fun r hr=>?_);simp only [keys,List.nil_append,List.cons_append,List.map_cons,List.map_nil,List.mem_cons,List.not_mem_nil,not_or,or_false,not_false_eq_true] at hr)|((with_reducible refine SeqD.id ?_);first|refine SeqD.go ?_|refine SeqD.ret ?_)|(with_reducible refine semD_seq cx ?_)|((with_reducible refine BodyR.id ?_);first|refine BodyR.ret ?_|refine BodyR.go ?_|refine BodyR.pan ?_)|((with_reducible refine ResG.id ?_);first|refine ResG.tmp rfl ?_|refine ResG.cell rfl ?_|refine ResG.nil ?_)|((with_reducible refine LoadIs.id ?_);first|refine LoadIs.agg (by repeat first|exact HGet.hit|apply HGet.miss (by first|assumption|(apply Ne.symm;assumption)|omega)) rfl rfl rfl ?_|refine LoadIs.one (by repeat first|exact HGet.hit|apply HGet.miss (by first|assumption|(apply Ne.symm;assumption)|omega)) rfl rfl rfl rfl ?_)|((with_reducible refine Upd.id ?_);first|(refine Upd.lit rfl ?_;(conv=>whnf))|refine Upd.set (by omega) ?_|refine Upd.set (by (simp only [List.length_map,List.length_set,List.length_replicate];omega)) ?_)|((with_reducible refine Grow2.id ?_);refine Grow2.own ?_)|refine newCap (fun cap hcap=>?_)|refine newB (fun b hb=>?_)|refine grow_split (fun _=>?_) (fun _=>?_)|fail
 ·exact Fin.mk ⟨_,rfl,Weaker.nilFull _⟩
 ·exact Fin.mk ⟨_,rfl,Weaker.refl _⟩
theorem cloneN_n:Pur cx 151 [.v (.slice none 0 0)] (.list .full 5 []):=by
 refine Pur.ofW (sem_calls' cx (fn:=Tryz.f151) rfl rfl rfl rfl ?_)
 repeat' first|refine Ops.tag rfl ?_|((with_reducible first|refine OpsT.yes ?_|refine OpsT.yes' ?_);(conv=>arg 7;whnf))|(with_reducible first|refine OpsT.andT ?_|refine OpsT.andF ?_|refine OpsT.no ?_|refine OpsT.no' ?_)|(refine OpsT.go ?_;(conv=>arg 7;whnf))|(with_reducible first|refine Stp.orF ?_|refine Stp.orT ?_|refine Stp.andT ?_|refine Stp.andF ?_|refine Stp.notT ?_|refine Stp.notF ?_|refine Stp.andT2 ?_|refine Stp.orF2 ?_)|((with_reducible refine Stp.isSum ?_);refine Stp.sum ?_)|((with_reducible refine Stp.isSumU ?_);refine Stp.sumU ?_)|((with_reducible refine Stp.isSum3 ?_);refine Stp.sum3 ?_)|((with_reducible refine Stp.isDec ?_);first|refine Stp.decT ?_|refine Stp.decF ?_)|((with_reducible refine Stp.isEq ?_);first|refine Stp.eqT ?_|refine Stp.eqF ?_)|((with_reducible refine Stp.isNe ?_);first|refine Stp.neT ?_|refine Stp.neF ?_)|refine Stp.pure rfl ?_|((with_reducible refine PutK.isSet ?_);refine PutK.set (by repeat first|exact HsetIs.hit|apply HsetIs.miss (by first|assumption|(apply Ne.symm;assumption)|omega)) ?_)|refine PutK.mk' rfl ?_|refine Ops.nil ?_|(refine DOps.cons rfl rfl ?_;(conv=>arg 7;whnf))|(with_reducible first|refine DStp.orF ?_|refine DStp.orT ?_|refine DStp.andT ?_|refine DStp.andF ?_|refine DStp.notT ?_|refine DStp.notF ?_|refine DStp.andT2 ?_|refine DStp.orF2 ?_)|((with_reducible refine DStp.isSum ?_);refine DStp.sum ?_)|((with_reducible refine DStp.isSumU ?_);refine DStp.sumU ?_)|((with_reducible refine DStp.isSum3 ?_);refine DStp.sum3 ?_)|((with_reducible refine DStp.isDec ?_);first|refine DStp.decT ?_|refine DStp.decF ?_)|((with_reducible refine DStp.isEq ?_);first|refine DStp.eqT ?_|refine DStp.eqF ?_)|((with_reducible refine DStp.isNe ?_);first|refine DStp.neT ?_|refine DStp.neF ?_)|refine DStp.pure rfl ?_|refine DStp.dead rfl ?_|refine PutD.mk' rfl ?_|refine DOps.nil rfl ?_|((with_reducible refine Look.id ?_);refine Look.auto ?_ (by repeat first|exact HGet.hit|apply HGet.miss (by first|assumption|(apply Ne.symm;assumption)|omega));try (conv=>arg 7;whnf))|((with_reducible refine Side.id ?_);first|refine Side.auto ?_)|((with_reducible refine Br.id ?_);first|(with_reducible first|refine br_true rfl ?_|refine br_false rfl ?_)|refine br_true (by with_reducible assumption) ?_|refine br_false (by with_reducible assumption) ?_|refine br_dec_t (by with_reducible assumption) ?_|refine br_dec_f (by with_reducible assumption) ?_|refine br_beq_t (by with_reducible assumption) ?_|refine br_beq_f (by with_reducible assumption) ?_|refine br_bne_t (by with_reducible assumption) ?_|refine br_bne_f (by with_reducible assumption) ?_|refine br_true rfl ?_|refine br_false rfl ?_|refine br_dec (fun _=>?_) (fun _=>?_)|refine br_beq (fun _=>?_) (fun _=>?_)|refine br_bne (fun _=>?_) (fun _=>?_)|refine br_split (fun _=>?_) (fun _=>?_))|((with_reducible refine SemWp.id ?_);first|refine sem_seq ?_|refine sem_region rfl ?_|refine sem_cond rfl ?_|refine sem_block ?_|refine sem_exit ?_|refine sem_ret ?_|refine sem_skip ?_|refine sem_label ?_|refine sem_draw ?_|refine sem_scope ?_)|((with_reducible refine qThen.id ?_);first|refine qThen.go ?_|refine qThen.ret ?_|refine qThen.exit ?_|refine qThen.pan ?_)|((with_reducible refine hinBlock.id ?_);first|refine hinBlock.go ?_|refine hinBlock.ret ?_|refine hinBlock.pan ?_|refine hinBlock.here rfl ?_|refine hinBlock.on rfl ?_)|((with_reducible refine hround.id ?_);first|refine hround.go ?_|refine hround.ret ?_|refine hround.exit ?_|refine hround.pan ?_)|((with_reducible refine bodyQ.id ?_);first|refine bodyQ.ret rfl ?_|refine bodyQ.ret2 rfl ?_|refine bodyQ.ret0 rfl ?_|refine bodyQ.go ?_|refine bodyQ.pan ?_)|refine Stp.valS ?_|refine Stp.valSC ?_|refine Stp.look ?_|refine Stp.call ?_|refine Stp.callC ?_|refine Stp.eff ?_|refine Stp.effC ?_|refine Stp.pan ?_|refine Stp.panC ?_|refine DStp.valS ?_|refine DStp.valSC ?_|refine DStp.look ?_|refine DStp.call ?_|refine DStp.callC ?_|((with_reducible refine CallC.id ?_);first|refine CallC.two ?_)|((with_reducible refine DrawReg.id ?_);refine drawQ' cx (by decide +kernel) rfl ?_)|(refine newN (fun r hr=>?_);simp only [keys,List.nil_append,List.cons_append,List.map_cons,List.map_nil,List.mem_cons,List.not_mem_nil,not_or,or_false,not_false_eq_true] at hr)|((with_reducible refine SeqD.id ?_);first|refine SeqD.go ?_|refine SeqD.ret ?_)|(with_reducible refine semD_seq cx ?_)|((with_reducible refine BodyR.id ?_);first|refine BodyR.ret ?_|refine BodyR.go ?_|refine BodyR.pan ?_)|((with_reducible refine ResG.id ?_);first|refine ResG.tmp rfl ?_|refine ResG.cell rfl ?_|refine ResG.nil ?_)|((with_reducible refine LoadIs.id ?_);first|refine LoadIs.agg (by repeat first|exact HGet.hit|apply HGet.miss (by first|assumption|(apply Ne.symm;assumption)|omega)) rfl rfl rfl ?_|refine LoadIs.one (by repeat first|exact HGet.hit|apply HGet.miss (by first|assumption|(apply Ne.symm;assumption)|omega)) rfl rfl rfl rfl ?_)|((with_reducible refine Upd.id ?_);first|(refine Upd.lit rfl ?_;(conv=>whnf))|refine Upd.set (by omega) ?_|refine Upd.set (by (simp only [List.length_map,List.length_set,List.length_replicate];omega)) ?_)|((with_reducible refine Grow2.id ?_);refine Grow2.own ?_)|refine newCap (fun cap hcap=>?_)|refine newB (fun b hb=>?_)|refine grow_split (fun _=>?_) (fun _=>?_)|fail
 ·exact Fin.mk ⟨_,rfl,Weaker.nilFull _⟩
 ·exact Fin.mk ⟨_,rfl,Weaker.refl _⟩
end Go.Proofs.Hk

set_option linter.unusedVariables false
set_option linter.unusedSimpArgs false
namespace Go.Proofs.Hk
open Go Go.Proofs
/-- slices.Grow of nil: an empty row of one's own. -/
theorem grow_new (n:Nat) (h0:0 < n) (hn:n≤1000000) (k:IntKind) (hk:k = .i64) (r:Nat):HCalls cx.P 90 [.v (.slice none 0 0),.v (.int k (.ofNat n))] [(r,.void)] fun e st=>e = .ret (.list (.own r 0) 1 [])∧st=[(r,.tok 0)]:=by
 subst hk
 refine ⟨fun G w vs hs ha=>?_⟩
 have hvs:vs = #[.slice none 0 0,.int .i64 n]:=by
  simp only [relVs_cons,relVs] at ha
  obtain ⟨u1,l1,e1,h1,u2,l2,e2,h2,e3⟩:=ha
  have a1:=rel_v_eq h1
  have a2:=rel_v_eq h2
  subst a1 a2 e3 e2
  rw [←Array.toArray_toList (xs:=vs),e1]
  rfl
 subst hvs
 obtain ⟨a0,a1,a2,a3⟩:=hs.holds r .void List.mem_cons_self
 refine (grow_calls n h0 hn w).mono fun e w' ⟨he,hw⟩=>?_
 subst he hw
 have post:=post_grown (w':=w.drew) (t:=9) (r:=r) (n:=0) (e:=0) (ce:=grownCap w n 0 9) (lim:=G.lim) (vs:=Builtin.zeroCells #[.string ⟨#[]⟩] n ++ Builtin.zeroCells #[.string ⟨#[]⟩] (grownCap w n 0 9 - n)) hs rfl rfl rfl rfl (s':=[(r,.tok 0)])
  (.inr ⟨by simp [keys],rfl,(hset_head _ _ _ _).symm,fun tp e=>by rw [a2] at e;cases e⟩) (by
   have:=grownCap_ge w n 0 9
   simp only [Array.size_append,zeroCells_size]
   simp
   omega)
 refine ⟨.ret (.list (.own r 0) 1 []),[(r,.tok 0)],_,⟨rfl,rfl⟩,?_,post⟩
 refine list_rel (by simp) (by simp only [relAts]) ?_
 exact ⟨⟨0,w.heap.size,0,_⟩,by simp only [Ghost.grown,if_true];rfl,by simp,fun _=>.inl ⟨rfl,by simp,by simp⟩⟩
theorem grow_nil:HCalls cx.P 90 [.v (.slice none 0 0),.v (.int .i64 0)] [] fun e st=>e = .ret (.v (.slice none 0 0))∧st=[]:=by
 refine ⟨fun G w vs hs ha=>?_⟩
 have hvs:vs = #[.slice none 0 0,.int .i64 0]:=by
  simp only [relVs_cons,relVs] at ha
  obtain ⟨u1,l1,e1,h1,u2,l2,e2,h2,e3⟩:=ha
  have a1:=rel_v_eq h1
  have a2:=rel_v_eq h2
  subst a1 a2 e3 e2
  rw [←Array.toArray_toList (xs:=vs),e1]
 subst hvs
 refine (grow_calls0 w).mono fun e w' ⟨he,hw⟩=>?_
 subst he hw
 exact ⟨_,[],G,⟨rfl,rfl⟩,rel_v G,.refl hs⟩
/-- What is known of the library's functions, and of those that were reckoned before. -/
def isI64:IntKind→Bool
 |.i64=>true
 |_=>false
def libGrow (xs:List HV):Option LibR:=
 match xs with
 |[.v (.slice none 0 0),.v (.int k (.ofNat n))]=>match isI64 k && Nat.ble 1 n && Nat.ble n 1000000 with
  |true=>some (.new (fun r=>.list (.own r 0) 1 []) (fun _=>.tok 0))
  |false=>match isI64 k && Nat.beq n 0 with
   |true=>some (.val (.v (.slice none 0 0)))
   |false=>none
 |_=>none
def libClone (sz:Nat) (xs:List HV):Option LibR:=
 match xs with
 |[.list _ z []]=>match Nat.beq z sz with
  |true=>some (.val (.list .full sz []))
  |false=>none
 |[.v (.slice none 0 0)]=>some (.val (.list .full sz []))
 |_=>none
def lib0 (f:FuncId) (xs:List HV):Option LibR:=
 match Nat.beq f 90 with
 |true=>libGrow xs
 |false=>match Nat.beq f 58 with
  |true=>libClone 1 xs
  |false=>match Nat.beq f 151 with
   |true=>libClone 5 xs
   |false=>none
theorem Pur.lib {c:Cx} {f:FuncId} {xs:List HV} {x:HV} (h:Pur c f xs x):HCalls c.P f xs [] fun e st=>e = .ret x∧st=[]:=h.calls []
theorem isI64_eq {k:IntKind} (h:isI64 k=true):k = .i64:=by cases k<;>first|rfl|cases h
/-- One function's contracts. -/
def LibF (c:Cx) (f:FuncId) (q:List HV→Option LibR):Prop:=
 ∀ xs,(∀ x,q xs=some (.val x)→HCalls c.P f xs [] fun e st=>e = .ret x∧st=[])∧
  (∀ X Y,q xs=some (.new X Y)→∀ r,HCalls c.P f xs [(r,.void)] fun e st=>e = .ret (X r)∧st=[(r,Y r)])
theorem libGrow_ok:LibF cx 90 libGrow:=by
 intro xs
 refine ⟨fun x h=>?_,fun X Y h r=>?_⟩
 ·unfold libGrow at h
  split at h
  ·rename_i k n
   split at h
   ·cases h
   ·split at h
    ·rename_i hc
     simp only [Bool.and_eq_true] at hc
     have h1:=isI64_eq hc.1
     have h2:=Nat.eq_of_beq_eq_true hc.2
     subst h1 h2
     cases h
     exact grow_nil
    ·cases h
  ·cases h
 ·unfold libGrow at h
  split at h
  ·rename_i k n
   split at h
   ·rename_i hc
    simp only [Bool.and_eq_true] at hc
    cases h
    exact grow_new n (Nat.le_of_ble_eq_true hc.1.2) (Nat.le_of_ble_eq_true hc.2) k (isI64_eq hc.1.1) r
   ·split at h<;>cases h
  ·cases h
theorem libClone_ok {f:FuncId} {sz:Nat} (h1:∀ t,Pur cx f [.list t sz []] (.list .full sz [])) (h2:Pur cx f [.v (.slice none 0 0)] (.list .full sz [])):LibF cx f (libClone sz):=by
 intro xs
 refine ⟨fun x h=>?_,fun X Y h r=>?_⟩
 ·unfold libClone at h
  split at h
  ·split at h
   ·rename_i hz
    have:=Nat.eq_of_beq_eq_true hz
    subst this
    cases h
    exact (h1 _).lib
   ·cases h
  ·cases h;exact h2.lib
  ·cases h
 ·unfold libClone at h
  split at h
  ·split at h<;>cases h
  ·cases h
  ·cases h
theorem LibOk.ite {c:Cx} {g:FuncId} {q:List HV→Option LibR} {lib:FuncId→List HV→Option LibR} (h1:LibF c g q) (h2:LibOk c lib):LibOk c (fun f xs=>match Nat.beq f g with|true=>q xs|false=>lib f xs):=by
 intro f xs
 simp only
 cases h:Nat.beq f g with
 |true=>have:=Nat.eq_of_beq_eq_true h;subst this;exact h1 xs
 |false=>exact h2 f xs
theorem LibOk.none (c:Cx):LibOk c (fun _ _=>none):=fun f xs=>⟨fun x h=>(by cases h),fun X Y h=>(by cases h)⟩
theorem lib0_ok:LibOk cx lib0:=
 LibOk.ite libGrow_ok (LibOk.ite (libClone_ok cloneS_e cloneS_n) (LibOk.ite (libClone_ok cloneN_e cloneN_n) (LibOk.none cx)))
/-- The answer is true. -/
def okRs:Rs→Bool
 |.ret (.v (.bool true)) _ _=>true
 |_=>false
theorem okRs_ret {r:Rs} (h:okRs r=true):∃ s j,r = .ret (.v (.bool true)) s j:=by
 unfold okRs at h
 split at h
 ·exact ⟨_,_,rfl⟩
 ·cases h
theorem run_true {lib:FuncId→List HV→Option LibR} (hlib:LibOk cx lib) {m K d:Nat} {f:FuncId} {xs:List HV} (h:okRs (run cx lib m (.call f xs) [] 0 K d)=true) (hxs:namelessL xs=true):Pur cx f xs (.v (.bool true)):=by
 obtain ⟨s,j,e⟩:=okRs_ret h
 exact run_pur hlib m K d e hxs rfl
abbrev KK:Nat:=2 ^ (24 * 31)
/-- The document's example. -/
theorem awake_pur:Pur cx 12 [] (.v (.bool true)):=run_true lib0_ok (m:=100000) (K:=KK) (d:=30) (by kernel_rfl) rfl
end Go.Proofs.Hk

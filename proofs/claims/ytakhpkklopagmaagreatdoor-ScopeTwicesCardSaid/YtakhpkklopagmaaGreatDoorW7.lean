import Derived.Test.YtakhpkklopagmaaGreatDoorG4
set_option linter.unusedSimpArgs false
set_option linter.unusedVariables false
set_option maxRecDepth 4000
set_option maxRecDepth 4000
namespace Go.Proofs.Hk
open Go Go.Proofs
theorem u8_is {a:Int} (w:(Lit.int .u8 a).wf=true):0≤a∧a≤255:=by simpa [Lit.wf,IntKind.min,IntKind.max,IntKind.signed,IntKind.bits] using w
theorem tmod_is {a:Int} (h:0≤a) (k:Nat) (hk:0 < k):∃ r:Nat,r < k∧a.tmod (k:Int)=r:=by
 refine ⟨(a.tmod k).toNat,?_,?_⟩<;>rw [Int.tmod_eq_emod_of_nonneg h]<;>have h1:=Int.emod_nonneg a (b:=(k:Int)) (by omega)<;>have h2:=Int.emod_lt_of_pos a (b:=(k:Int)) (by omega)<;>omega
def w7:Nat→ByteArray
 |0=>⟨#[112,114,111,99,32,102,32,40,32,97,32,44,32,97,32,41,32,123,32,125]⟩
 |1=>⟨#[112,114,111,99,32,102,32,40,32,97,32,41,32,45,62,32,97,32,123,32,125]⟩
 |2=>⟨#[112,114,111,99,32,102,32,40,32,97,32,41,32,123,32,118,97,114,32,97,32,59,32,125]⟩
 |3=>⟨#[112,114,111,99,32,102,32,40,32,41,32,45,62,32,114,32,123,32,118,97,114,32,114,32,59,32,125]⟩
 |_=>⟨#[112,114,111,99,32,102,32,40,32,41,32,123,32,118,97,114,32,118,32,59,32,118,97,114,32,118,32,59,32,125]⟩
theorem pre7 (a:Int) (h0:0≤a∧a≤255) (r:Nat) (hr:r < 5) (hK:a.tmod (([HV.v (.string ⟨#[112,114,111,99,32,102,32,40,32,97,32,44,32,97,32,41,32,123,32,125]⟩),HV.v (.string ⟨#[112,114,111,99,32,102,32,40,32,97,32,41,32,45,62,32,97,32,123,32,125]⟩),HV.v (.string ⟨#[112,114,111,99,32,102,32,40,32,97,32,41,32,123,32,118,97,114,32,97,32,59,32,125]⟩),HV.v (.string ⟨#[112,114,111,99,32,102,32,40,32,41,32,45,62,32,114,32,123,32,118,97,114,32,114,32,59,32,125]⟩),HV.v (.string ⟨#[112,114,111,99,32,102,32,40,32,41,32,123,32,118,97,114,32,118,32,59,32,118,97,114,32,118,32,59,32,125]⟩)].length:Nat):Int)=(r:Int)) (Q) (s:HS) (rest:Code) (h:SemWp cx.P 88 rest Q [(4,.sure,ss (w7 r)),(2,.sure,bb false)] s):SemWp cx.P 88 (.seq (hdC (bodyOf Tryz.f7)) (.seq (hdC (tlC (bodyOf Tryz.f7))) (.seq (hdC (tlC (tlC (bodyOf Tryz.f7)))) rest))) Q (initFr [.v (.int .u8 a)] 0) s:=by
 have ga:[HV.v (.string ⟨#[112,114,111,99,32,102,32,40,32,97,32,44,32,97,32,41,32,123,32,125]⟩),HV.v (.string ⟨#[112,114,111,99,32,102,32,40,32,97,32,41,32,45,62,32,97,32,123,32,125]⟩),HV.v (.string ⟨#[112,114,111,99,32,102,32,40,32,97,32,41,32,123,32,118,97,114,32,97,32,59,32,125]⟩),HV.v (.string ⟨#[112,114,111,99,32,102,32,40,32,41,32,45,62,32,114,32,123,32,118,97,114,32,114,32,59,32,125]⟩),HV.v (.string ⟨#[112,114,111,99,32,102,32,40,32,41,32,123,32,118,97,114,32,118,32,59,32,118,97,114,32,118,32,59,32,125]⟩)].getD ((r:Nat):Int).toNat default=ss (w7 r):=by
  rw [Int.toNat_natCast]
  match r,hr with
  |0,_=>rfl
  |1,_=>rfl
  |2,_=>rfl
  |3,_=>rfl
  |4,_=>rfl
 repeat' first|refine Ops.tag rfl ?_|((with_reducible first|refine OpsT.yes ?_|refine OpsT.yes' ?_);(conv=>arg 7;whnf))|(with_reducible first|refine OpsT.andT ?_|refine OpsT.andF ?_|refine OpsT.no ?_|refine OpsT.no' ?_)|(refine OpsT.go ?_;(conv=>arg 7;whnf))|(with_reducible first|refine Stp.orF ?_|refine Stp.orT ?_|refine Stp.andT ?_|refine Stp.andF ?_|refine Stp.notT ?_|refine Stp.notF ?_|refine Stp.andT2 ?_|refine Stp.orF2 ?_)|((with_reducible refine Stp.isSum ?_);refine Stp.sum ?_)|((with_reducible refine Stp.isSumU ?_);refine Stp.sumU ?_)|((with_reducible refine Stp.isSum3 ?_);refine Stp.sum3 ?_)|((with_reducible refine Stp.isDec ?_);first|refine Stp.decT ?_|refine Stp.decF ?_)|((with_reducible refine Stp.isEq ?_);first|refine Stp.eqT ?_|refine Stp.eqF ?_)|((with_reducible refine Stp.isNe ?_);first|refine Stp.neT ?_|refine Stp.neF ?_)|refine Stp.pure rfl ?_|((with_reducible refine PutK.isSet ?_);refine PutK.set (by repeat first|exact HsetIs.hit|apply HsetIs.miss (by first|assumption|(apply Ne.symm;assumption)|omega)) ?_)|refine PutK.mk' rfl ?_|refine Ops.nil ?_|(refine DOps.cons rfl rfl ?_;(conv=>arg 7;whnf))|(with_reducible first|refine DStp.orF ?_|refine DStp.orT ?_|refine DStp.andT ?_|refine DStp.andF ?_|refine DStp.notT ?_|refine DStp.notF ?_|refine DStp.andT2 ?_|refine DStp.orF2 ?_)|((with_reducible refine DStp.isSum ?_);refine DStp.sum ?_)|((with_reducible refine DStp.isSumU ?_);refine DStp.sumU ?_)|((with_reducible refine DStp.isSum3 ?_);refine DStp.sum3 ?_)|((with_reducible refine DStp.isDec ?_);first|refine DStp.decT ?_|refine DStp.decF ?_)|((with_reducible refine DStp.isEq ?_);first|refine DStp.eqT ?_|refine DStp.eqF ?_)|((with_reducible refine DStp.isNe ?_);first|refine DStp.neT ?_|refine DStp.neF ?_)|refine DStp.pure rfl ?_|refine DStp.dead rfl ?_|refine PutD.mk' rfl ?_|refine DOps.nil rfl ?_|((with_reducible refine Look.id ?_);refine Look.auto ?_ (by repeat first|exact HGet.hit|apply HGet.miss (by first|assumption|(apply Ne.symm;assumption)|omega));try (conv=>arg 7;whnf))|((with_reducible refine Side.id ?_);first|refine Side.auto ?_)|((with_reducible refine Br.id ?_);first|(with_reducible first|refine br_true rfl ?_|refine br_false rfl ?_)|refine br_true (by with_reducible assumption) ?_|refine br_false (by with_reducible assumption) ?_|refine br_dec_t (by with_reducible assumption) ?_|refine br_dec_f (by with_reducible assumption) ?_|refine br_beq_t (by with_reducible assumption) ?_|refine br_beq_f (by with_reducible assumption) ?_|refine br_bne_t (by with_reducible assumption) ?_|refine br_bne_f (by with_reducible assumption) ?_|refine br_true rfl ?_|refine br_false rfl ?_|refine br_dec (fun _=>?_) (fun _=>?_)|refine br_beq (fun _=>?_) (fun _=>?_)|refine br_bne (fun _=>?_) (fun _=>?_)|refine br_split (fun _=>?_) (fun _=>?_))|((with_reducible refine SemWp.id ?_);first|refine sem_seq ?_|refine sem_region rfl ?_|refine sem_cond rfl ?_|refine sem_block ?_|refine sem_exit ?_|refine sem_ret ?_|refine sem_skip ?_|refine sem_label ?_|refine sem_draw ?_|refine sem_scope ?_)|((with_reducible refine qThen.id ?_);first|refine qThen.go ?_|refine qThen.ret ?_|refine qThen.exit ?_|refine qThen.pan ?_)|((with_reducible refine hinBlock.id ?_);first|refine hinBlock.go ?_|refine hinBlock.ret ?_|refine hinBlock.pan ?_|refine hinBlock.here rfl ?_|refine hinBlock.on rfl ?_)|((with_reducible refine hround.id ?_);first|refine hround.go ?_|refine hround.ret ?_|refine hround.exit ?_|refine hround.pan ?_)|((with_reducible refine bodyQ.id ?_);first|refine bodyQ.ret rfl ?_|refine bodyQ.ret2 rfl ?_|refine bodyQ.ret0 rfl ?_|refine bodyQ.go ?_|refine bodyQ.pan ?_)|refine Stp.valS ?_|refine Stp.valSC ?_|refine Stp.look ?_|refine Stp.call ?_|refine Stp.callC ?_|refine Stp.eff ?_|refine Stp.effC ?_|refine Stp.pan ?_|refine Stp.panC ?_|refine DStp.valS ?_|refine DStp.valSC ?_|refine DStp.look ?_|refine DStp.call ?_|refine DStp.callC ?_|((with_reducible refine CallC.id ?_);first|refine CallC.two ?_)|((with_reducible refine DrawReg.id ?_);refine drawQ' cx (by decide +kernel) rfl ?_)|(refine newN (fun r hr=>?_);simp only [keys,List.nil_append,List.cons_append,List.map_cons,List.map_nil,List.mem_cons,List.not_mem_nil,not_or,or_false,not_false_eq_true] at hr)|((with_reducible refine SeqD.id ?_);first|refine SeqD.go ?_|refine SeqD.ret ?_)|(with_reducible refine semD_seq cx ?_)|((with_reducible refine BodyR.id ?_);first|refine BodyR.ret ?_|refine BodyR.go ?_|refine BodyR.pan ?_)|((with_reducible refine ResG.id ?_);first|refine ResG.tmp rfl ?_|refine ResG.cell rfl ?_|refine ResG.nil ?_)|((with_reducible refine LoadIs.id ?_);first|refine LoadIs.agg (by repeat first|exact HGet.hit|apply HGet.miss (by first|assumption|(apply Ne.symm;assumption)|omega)) rfl rfl rfl ?_|refine LoadIs.one (by repeat first|exact HGet.hit|apply HGet.miss (by first|assumption|(apply Ne.symm;assumption)|omega)) rfl rfl rfl rfl ?_)|((with_reducible refine Upd.id ?_);first|(refine Upd.lit rfl ?_;(conv=>whnf))|refine Upd.set (by omega) ?_|refine Upd.set (by (simp only [List.length_map,List.length_set,List.length_replicate];omega)) ?_)|((with_reducible refine Grow2.id ?_);refine Grow2.own ?_)|refine newCap (fun cap hcap=>?_)|refine newB (fun b hb=>?_)|refine grow_split (fun _=>?_) (fun _=>?_)|rw [hK]|rw [ga]|fail
 exact h.forget (Sub.cons rfl rfl (Sub.cons rfl rfl (Sub.nil _)))
noncomputable def go7 (r:Nat):Bool:=okR (evTail cx lib1 100000 Tryz.f7 (dropC 3 (bodyOf Tryz.f7)) [(4,.sure,ss (w7 r)),(2,.sure,bb false)] KK 30)
theorem go7_0:go7 0=true:=by kernel_rfl
theorem go7_1:go7 1=true:=by kernel_rfl
theorem go7_2:go7 2=true:=by kernel_rfl
theorem go7_3:go7 3=true:=by kernel_rfl
theorem go7_4:go7 4=true:=by kernel_rfl
theorem ev7 (r:Nat) (hr:r < 5):go7 r=true:=by
 match r,hr with
 |0,_=>exact go7_0
 |1,_=>exact go7_1
 |2,_=>exact go7_2
 |3,_=>exact go7_3
 |4,_=>exact go7_4
theorem ScopeTwices_spec (a:Int) (w:(Lit.int .u8 a).wf=true):Pur cx 7 [.v (.int .u8 a)] (bb true):=by
 have h0:=u8_is w
 obtain ⟨r,hr,hK⟩:=tmod_is h0.1 5 (by decide)
 exact cut_true lib1_ok (fn:=Tryz.f7) (code:=bodyOf Tryz.f7) rfl rfl rfl (fun Q s h=>pre7 a h0 r hr hK Q s _ h) (ev7 r hr) rfl
end Go.Proofs.Hk

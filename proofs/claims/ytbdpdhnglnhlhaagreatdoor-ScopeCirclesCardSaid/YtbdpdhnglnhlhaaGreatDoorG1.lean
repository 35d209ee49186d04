import Derived.Test.YtbdpdhnglnhlhaaGreatDoorE12
import Derived.Test.YtbdpdhnglnhlhaaGreatDoorCX
import Derived.WalkKit
import Derived.Lib.Walk
import Derived.Lib.SliceRun
import Derived.Lib.AppendZerosOnto
import Derived.Test.YtbdpdhnglnhlhaaGreatDoorH15
set_option linter.unusedSimpArgs false
set_option linter.unusedVariables false
set_option linter.unusedVariables false
set_option maxRecDepth 4000
set_option linter.unusedSimpArgs false
namespace Go.Proofs
open Go
theorem info9':Tryz.prog.info? 9=some Tryz.t9:=by kernel_rfl
theorem undSS:Tryz.prog.underlying 37=some (.slice 9):=by kernel_rfl
theorem und3:Tryz.prog.underlying 3=some (.int .i64):=by kernel_rfl
set_option maxHeartbeats 4000000 in
set_option maxRecDepth 100000 in
theorem grow_calls (n:Nat) (h0:0 < n) (hn:n≤1000000) (w:World):Calls Tryz.prog 67 #[.slice none 0 0,.int .i64 n] w fun e w'=>
  e = .returned (.slice (some ⟨w.heap.size,0,none⟩) 0 (grownCap w n 0 9))∧w'=w.drew.alloc (.cells (Builtin.zeroCells #[.string ⟨#[]⟩] n ++ Builtin.zeroCells #[.string ⟨#[]⟩] (grownCap w n 0 9 - n)) 9):=by
 have h1:¬ ((n:Int) < 0):=by omega
 have h4:(n:Int) > 0:=by omega
 have hbz:Tryz.t9.bytes=16:=by kernel_rfl
 have hsz:Tryz.t9.size=1:=by kernel_rfl
 have hGn:n≤grownCap w n 0 9:=grownCap_ge w _ _ _
 have hfit:¬ (281474976710656 < Builtin.nextslicecap n 0 * 16):=by
  have:=growslice_fits (need:=0+n) (old:=0) (bytes:=16) (by omega) (by omega)
  simp only [Nat.zero_add] at this
  omega
 go_enter Tryz.func67,Tryz.ntmps67
 go_wp2
 go_ret
 exact ⟨rfl,rfl⟩
set_option maxHeartbeats 4000000 in
set_option maxRecDepth 100000 in
theorem grow_calls0 (w:World):Calls Tryz.prog 67 #[.slice none 0 0,.int .i64 0] w fun e w'=>e = .returned (.slice none 0 0)∧w'=w:=by
 go_enter Tryz.func67,Tryz.ntmps67
 go_wp2
 go_ret
 exact ⟨rfl,rfl⟩
end Go.Proofs

set_option linter.unusedSimpArgs false
set_option linter.unusedVariables false
set_option maxRecDepth 4000
namespace Go.Proofs.Hk
open Go Go.Proofs
def blankZ (b:Int):Bool:=b == 32||b == 9||b == 10||b == 13
def letterZ (b:Int):Bool:=decide (b≥97) && decide (b≤122)
def digitZ (b:Int):Bool:=decide (b≥48) && decide (b≤57)
def bb (b:Bool):HV:=.v (.bool b)
def ii (n:Int):HV:=.v (.int .i64 n)
def ss (s:ByteArray):HV:=.v (.string s)
def cc (n:Int):HV:=.v (.int .u8 n)
theorem blank_letter {b:Int} (h:blankZ b=true):letterZ b=false∧digitZ b=false:=by
 simp only [blankZ,letterZ,digitZ,Bool.or_eq_true,beq_iff_eq] at *
 rcases h with ((rfl|rfl)|rfl)|rfl<;>decide
theorem letter_digit {b:Int} (h:letterZ b=true):digitZ b=false:=by
 simp only [letterZ,digitZ,Bool.and_eq_true,decide_eq_true_eq] at *
 simp;omega
theorem sort_spec (b:Int):Pur cx 34 [cc b] (.tup [bb (blankZ b),bb (letterZ b),bb (digitZ b)]):=by
 refine ⟨sem_calls cx (fn:=Tryz.f34) rfl rfl rfl rfl ?_⟩
 repeat' first|((with_reducible refine Ops.id ?_);first|(refine Ops.cons rfl ?_;(conv=>arg 7;whnf))|refine Ops.nil ?_)|((with_reducible refine Stp.id ?_);first|refine Stp.pure rfl ?_|refine Stp.val rfl ?_|refine Stp.valC rfl ?_|refine Stp.call ?_|refine Stp.callC ?_|refine Stp.look ?_|refine Stp.eff ?_|refine Stp.effC ?_|refine Stp.pan ?_|refine Stp.panC ?_)|((with_reducible refine PutK.id ?_);first|(refine PutK.set HsetIs.hit ?_)|(refine PutK.set (HsetIs.miss ?_ HsetIs.hit) ?_;(focus omega))|(refine PutK.set (HsetIs.miss ?_ (HsetIs.miss ?_ HsetIs.hit)) ?_;(focus omega);(focus omega))|(refine PutK.set (HsetIs.miss ?_ (HsetIs.miss ?_ (HsetIs.miss ?_ HsetIs.hit))) ?_;(focus omega);(focus omega);(focus omega))|(refine PutK.set (HsetIs.miss ?_ (HsetIs.miss ?_ (HsetIs.miss ?_ (HsetIs.miss ?_ HsetIs.hit)))) ?_;(focus omega);(focus omega);(focus omega);(focus omega))|(refine PutK.set (HsetIs.miss ?_ (HsetIs.miss ?_ (HsetIs.miss ?_ (HsetIs.miss ?_ (HsetIs.miss ?_ HsetIs.hit))))) ?_;(focus omega);(focus omega);(focus omega);(focus omega);(focus omega))|(refine PutK.set (HsetIs.miss ?_ (HsetIs.miss ?_ (HsetIs.miss ?_ (HsetIs.miss ?_ (HsetIs.miss ?_ (HsetIs.miss ?_ HsetIs.hit)))))) ?_;(focus omega);(focus omega);(focus omega);(focus omega);(focus omega);(focus omega))|refine PutK.mk' rfl ?_)|((with_reducible refine Upd.id ?_);(refine Upd.lit rfl ?_;(conv=>whnf)))|((with_reducible refine Grow2.id ?_);refine Grow2.own ?_)|((with_reducible refine Side.id ?_);first|refine Side.mk True.intro ?_|refine Side.mk rfl ?_|refine Side.mk (fun h=>h) ?_|(refine Side.mk ?_ ?_;focus (intro hside;rw [hside];done))|(refine Side.mk ?_ ?_;focus (((repeat' apply And.intro)<;>first|exact True.intro|assumption|rfl|omega|(simp;done)|(simp;omega)|(simp only [Bool.and_eq_true,Bool.or_eq_true,Bool.not_eq_true',decide_eq_true_eq,decide_eq_false_iff_not,beq_iff_eq,ne_eq,beq_eq_false_iff_ne,Bool.and_eq_false_iff,Bool.or_eq_false_iff] at *;omega)|(simp +contextual;done));done))|(refine Side.mk ?_ ?_;focus (intro hside;((repeat' apply And.intro)<;>first|exact True.intro|assumption|rfl|omega|(simp;done)|(simp;omega)|(simp only [Bool.and_eq_true,Bool.or_eq_true,Bool.not_eq_true',decide_eq_true_eq,decide_eq_false_iff_not,beq_iff_eq,ne_eq,beq_eq_false_iff_ne,Bool.and_eq_false_iff,Bool.or_eq_false_iff] at *;omega)|(simp +contextual;done));done)))|((with_reducible refine Br.id ?_);first|refine br_true rfl ?_|refine br_false rfl ?_|refine br_true (by with_reducible assumption) ?_|refine br_false (by with_reducible assumption) ?_|refine br_dec_t (by with_reducible assumption) ?_|refine br_dec_f (by with_reducible assumption) ?_|refine br_beq_t (by with_reducible assumption) ?_|refine br_beq_f (by with_reducible assumption) ?_|refine br_bne_t (by with_reducible assumption) ?_|refine br_bne_f (by with_reducible assumption) ?_|refine br_dec (fun _=>?_) (fun _=>?_)|refine br_beq (fun _=>?_) (fun _=>?_)|refine br_bne (fun _=>?_) (fun _=>?_)|refine br_split (fun _=>?_) (fun _=>?_))|((with_reducible refine Look.id ?_);first|(refine Look.hit ?_;try (conv=>arg 7;whnf))|refine Look.miss (by omega) ?_)|((with_reducible refine SemWp.id ?_);first|refine sem_seq ?_|refine sem_region rfl ?_|refine sem_cond rfl ?_|refine sem_block ?_|refine sem_exit ?_|refine sem_ret ?_|refine sem_skip ?_|refine sem_label ?_|refine sem_draw ?_)|((with_reducible refine CallC.id ?_);first|refine CallC.two ?_)|((with_reducible refine qThen.id ?_);first|refine qThen.go ?_|refine qThen.ret ?_|refine qThen.exit ?_|refine qThen.pan ?_)|((with_reducible refine hinBlock.id ?_);first|refine hinBlock.go ?_|refine hinBlock.ret ?_|refine hinBlock.pan ?_|refine hinBlock.here rfl ?_|refine hinBlock.on rfl ?_)|((with_reducible refine hround.id ?_);first|refine hround.go ?_|refine hround.ret ?_|refine hround.exit ?_|refine hround.pan ?_)|((with_reducible refine bodyQ.id ?_);first|refine bodyQ.ret rfl ?_|refine bodyQ.ret2 rfl ?_|refine bodyQ.ret0 rfl ?_|refine bodyQ.go ?_|refine bodyQ.pan ?_)|(refine drawQ cx (by decide +kernel) ?_;(conv=>whnf))|((conv=>whnf);first|((with_reducible refine Side.id ?_);first|refine Side.mk True.intro ?_|refine Side.mk rfl ?_|refine Side.mk (fun h=>h) ?_|(refine Side.mk ?_ ?_;focus (intro hside;rw [hside];done))|(refine Side.mk ?_ ?_;focus (((repeat' apply And.intro)<;>first|exact True.intro|assumption|rfl|omega|(simp;done)|(simp;omega)|(simp only [Bool.and_eq_true,Bool.or_eq_true,Bool.not_eq_true',decide_eq_true_eq,decide_eq_false_iff_not,beq_iff_eq,ne_eq,beq_eq_false_iff_ne,Bool.and_eq_false_iff,Bool.or_eq_false_iff] at *;omega)|(simp +contextual;done));done))|(refine Side.mk ?_ ?_;focus (intro hside;((repeat' apply And.intro)<;>first|exact True.intro|assumption|rfl|omega|(simp;done)|(simp;omega)|(simp only [Bool.and_eq_true,Bool.or_eq_true,Bool.not_eq_true',decide_eq_true_eq,decide_eq_false_iff_not,beq_iff_eq,ne_eq,beq_eq_false_iff_ne,Bool.and_eq_false_iff,Bool.or_eq_false_iff] at *;omega)|(simp +contextual;done));done)))|((with_reducible refine Look.id ?_);first|(refine Look.hit ?_;try (conv=>arg 7;whnf))|refine Look.miss (by omega) ?_)|((with_reducible refine SemWp.id ?_);first|refine sem_seq ?_|refine sem_region rfl ?_|refine sem_cond rfl ?_|refine sem_block ?_|refine sem_exit ?_|refine sem_ret ?_|refine sem_skip ?_|refine sem_label ?_|refine sem_draw ?_))|fail
 all_goals refine Fin.mk ⟨?_,rfl⟩
 ·rename_i h
  have h:blankZ b=true:=h
  rw [h,(blank_letter h).1,(blank_letter h).2];rfl
 ·rename_i h1 h2
  have h1:blankZ b=false:=h1
  have h2:letterZ b=true:=h2
  rw [h1,h2,letter_digit h2];rfl
 ·rename_i h1 h2 h3
  have h1:blankZ b=false:=h1
  have h2:letterZ b=false:=h2
  have h3:digitZ b=true:=h3
  rw [h1,h2,h3];rfl
 ·rename_i h1 h2 h3
  have h1:blankZ b=false:=h1
  have h2:letterZ b=false:=h2
  have h3:digitZ b=false:=h3
  rw [h1,h2,h3];rfl
def wordZ (b:Int):Bool:=letterZ b||digitZ b||b == 95
theorem word_spec (b:Int):Pur cx 33 [cc b] (bb (wordZ b)):=by
 refine ⟨sem_calls cx (fn:=Tryz.f33) rfl rfl rfl rfl ?_⟩
 repeat' first|((with_reducible refine Ops.id ?_);first|(refine Ops.cons rfl ?_;(conv=>arg 7;whnf))|refine Ops.nil ?_)|((with_reducible refine Stp.id ?_);first|refine Stp.pure rfl ?_|refine Stp.val rfl ?_|refine Stp.valC rfl ?_|refine Stp.call ?_|refine Stp.callC ?_|refine Stp.look ?_|refine Stp.eff ?_|refine Stp.effC ?_|refine Stp.pan ?_|refine Stp.panC ?_)|((with_reducible refine PutK.id ?_);first|(refine PutK.set HsetIs.hit ?_)|(refine PutK.set (HsetIs.miss ?_ HsetIs.hit) ?_;(focus omega))|(refine PutK.set (HsetIs.miss ?_ (HsetIs.miss ?_ HsetIs.hit)) ?_;(focus omega);(focus omega))|(refine PutK.set (HsetIs.miss ?_ (HsetIs.miss ?_ (HsetIs.miss ?_ HsetIs.hit))) ?_;(focus omega);(focus omega);(focus omega))|(refine PutK.set (HsetIs.miss ?_ (HsetIs.miss ?_ (HsetIs.miss ?_ (HsetIs.miss ?_ HsetIs.hit)))) ?_;(focus omega);(focus omega);(focus omega);(focus omega))|(refine PutK.set (HsetIs.miss ?_ (HsetIs.miss ?_ (HsetIs.miss ?_ (HsetIs.miss ?_ (HsetIs.miss ?_ HsetIs.hit))))) ?_;(focus omega);(focus omega);(focus omega);(focus omega);(focus omega))|(refine PutK.set (HsetIs.miss ?_ (HsetIs.miss ?_ (HsetIs.miss ?_ (HsetIs.miss ?_ (HsetIs.miss ?_ (HsetIs.miss ?_ HsetIs.hit)))))) ?_;(focus omega);(focus omega);(focus omega);(focus omega);(focus omega);(focus omega))|refine PutK.mk' rfl ?_)|((with_reducible refine Upd.id ?_);(refine Upd.lit rfl ?_;(conv=>whnf)))|((with_reducible refine Grow2.id ?_);refine Grow2.own ?_)|((with_reducible refine Side.id ?_);first|refine Side.mk True.intro ?_|refine Side.mk rfl ?_|refine Side.mk (fun h=>h) ?_|(refine Side.mk ?_ ?_;focus (intro hside;rw [hside];done))|(refine Side.mk ?_ ?_;focus (((repeat' apply And.intro)<;>first|exact True.intro|assumption|rfl|omega|(simp;done)|(simp;omega)|(simp only [Bool.and_eq_true,Bool.or_eq_true,Bool.not_eq_true',decide_eq_true_eq,decide_eq_false_iff_not,beq_iff_eq,ne_eq,beq_eq_false_iff_ne,Bool.and_eq_false_iff,Bool.or_eq_false_iff] at *;omega)|(simp +contextual;done));done))|(refine Side.mk ?_ ?_;focus (intro hside;((repeat' apply And.intro)<;>first|exact True.intro|assumption|rfl|omega|(simp;done)|(simp;omega)|(simp only [Bool.and_eq_true,Bool.or_eq_true,Bool.not_eq_true',decide_eq_true_eq,decide_eq_false_iff_not,beq_iff_eq,ne_eq,beq_eq_false_iff_ne,Bool.and_eq_false_iff,Bool.or_eq_false_iff] at *;omega)|(simp +contextual;done));done)))|((with_reducible refine Br.id ?_);first|refine br_true rfl ?_|refine br_false rfl ?_|refine br_true (by with_reducible assumption) ?_|refine br_false (by with_reducible assumption) ?_|refine br_dec_t (by with_reducible assumption) ?_|refine br_dec_f (by with_reducible assumption) ?_|refine br_beq_t (by with_reducible assumption) ?_|refine br_beq_f (by with_reducible assumption) ?_|refine br_bne_t (by with_reducible assumption) ?_|refine br_bne_f (by with_reducible assumption) ?_|refine br_dec (fun _=>?_) (fun _=>?_)|refine br_beq (fun _=>?_) (fun _=>?_)|refine br_bne (fun _=>?_) (fun _=>?_)|refine br_split (fun _=>?_) (fun _=>?_))|((with_reducible refine Look.id ?_);first|(refine Look.hit ?_;try (conv=>arg 7;whnf))|refine Look.miss (by omega) ?_)|((with_reducible refine SemWp.id ?_);first|refine sem_seq ?_|refine sem_region rfl ?_|refine sem_cond rfl ?_|refine sem_block ?_|refine sem_exit ?_|refine sem_ret ?_|refine sem_skip ?_|refine sem_label ?_|refine sem_draw ?_)|((with_reducible refine CallWp.id ?_);first|refine Pur.call (sort_spec b) ?_)|((with_reducible refine QAsk.id ?_);first|(refine Pur.ask (sort_spec b) ?_ ?_;focus (intro h;first|exact True.intro|exact h|exact rfl|exact ⟨h,rfl⟩|exact ⟨h,h,rfl⟩|exact hk|exact ⟨h,hk⟩|exact ⟨h,h,hk⟩|(simp +contextual at h ⊢;done);done)))|((with_reducible refine CallC.id ?_);first|(refine Pur.askC (sort_spec b) ?_ ?_;focus (intro h;first|exact True.intro|exact h|exact rfl|exact ⟨h,rfl⟩|exact ⟨h,h,rfl⟩|exact hk|exact ⟨h,hk⟩|exact ⟨h,h,hk⟩|(simp +contextual at h ⊢;done);done))|refine CallC.two ?_)|((with_reducible refine qThen.id ?_);first|refine qThen.go ?_|refine qThen.ret ?_|refine qThen.exit ?_|refine qThen.pan ?_)|((with_reducible refine hinBlock.id ?_);first|refine hinBlock.go ?_|refine hinBlock.ret ?_|refine hinBlock.pan ?_|refine hinBlock.here rfl ?_|refine hinBlock.on rfl ?_)|((with_reducible refine hround.id ?_);first|refine hround.go ?_|refine hround.ret ?_|refine hround.exit ?_|refine hround.pan ?_)|((with_reducible refine bodyQ.id ?_);first|refine bodyQ.ret rfl ?_|refine bodyQ.ret2 rfl ?_|refine bodyQ.ret0 rfl ?_|refine bodyQ.go ?_|refine bodyQ.pan ?_)|(refine drawQ cx (by decide +kernel) ?_;(conv=>whnf))|((conv=>whnf);first|((with_reducible refine Side.id ?_);first|refine Side.mk True.intro ?_|refine Side.mk rfl ?_|refine Side.mk (fun h=>h) ?_|(refine Side.mk ?_ ?_;focus (intro hside;rw [hside];done))|(refine Side.mk ?_ ?_;focus (((repeat' apply And.intro)<;>first|exact True.intro|assumption|rfl|omega|(simp;done)|(simp;omega)|(simp only [Bool.and_eq_true,Bool.or_eq_true,Bool.not_eq_true',decide_eq_true_eq,decide_eq_false_iff_not,beq_iff_eq,ne_eq,beq_eq_false_iff_ne,Bool.and_eq_false_iff,Bool.or_eq_false_iff] at *;omega)|(simp +contextual;done));done))|(refine Side.mk ?_ ?_;focus (intro hside;((repeat' apply And.intro)<;>first|exact True.intro|assumption|rfl|omega|(simp;done)|(simp;omega)|(simp only [Bool.and_eq_true,Bool.or_eq_true,Bool.not_eq_true',decide_eq_true_eq,decide_eq_false_iff_not,beq_iff_eq,ne_eq,beq_eq_false_iff_ne,Bool.and_eq_false_iff,Bool.or_eq_false_iff] at *;omega)|(simp +contextual;done));done)))|((with_reducible refine Look.id ?_);first|(refine Look.hit ?_;try (conv=>arg 7;whnf))|refine Look.miss (by omega) ?_)|((with_reducible refine QAsk.id ?_);first|(refine Pur.ask (sort_spec b) ?_ ?_;focus (intro h;first|exact True.intro|exact h|exact rfl|exact ⟨h,rfl⟩|exact ⟨h,h,rfl⟩|exact hk|exact ⟨h,hk⟩|exact ⟨h,h,hk⟩|(simp +contextual at h ⊢;done);done)))|((with_reducible refine SemWp.id ?_);first|refine sem_seq ?_|refine sem_region rfl ?_|refine sem_cond rfl ?_|refine sem_block ?_|refine sem_exit ?_|refine sem_ret ?_|refine sem_skip ?_|refine sem_label ?_|refine sem_draw ?_))|fail
 exact Fin.mk ⟨rfl,rfl⟩
theorem digit_spec (b:Int):Pur cx 37 [cc b] (bb (digitZ b)):=by
 refine ⟨sem_calls cx (fn:=Tryz.f37) rfl rfl rfl rfl ?_⟩
 repeat' first|((with_reducible refine Ops.id ?_);first|(refine Ops.cons rfl ?_;(conv=>arg 7;whnf))|refine Ops.nil ?_)|((with_reducible refine Stp.id ?_);first|refine Stp.pure rfl ?_|refine Stp.val rfl ?_|refine Stp.valC rfl ?_|refine Stp.call ?_|refine Stp.callC ?_|refine Stp.look ?_|refine Stp.eff ?_|refine Stp.effC ?_|refine Stp.pan ?_|refine Stp.panC ?_)|((with_reducible refine PutK.id ?_);first|(refine PutK.set HsetIs.hit ?_)|(refine PutK.set (HsetIs.miss ?_ HsetIs.hit) ?_;(focus omega))|(refine PutK.set (HsetIs.miss ?_ (HsetIs.miss ?_ HsetIs.hit)) ?_;(focus omega);(focus omega))|(refine PutK.set (HsetIs.miss ?_ (HsetIs.miss ?_ (HsetIs.miss ?_ HsetIs.hit))) ?_;(focus omega);(focus omega);(focus omega))|(refine PutK.set (HsetIs.miss ?_ (HsetIs.miss ?_ (HsetIs.miss ?_ (HsetIs.miss ?_ HsetIs.hit)))) ?_;(focus omega);(focus omega);(focus omega);(focus omega))|(refine PutK.set (HsetIs.miss ?_ (HsetIs.miss ?_ (HsetIs.miss ?_ (HsetIs.miss ?_ (HsetIs.miss ?_ HsetIs.hit))))) ?_;(focus omega);(focus omega);(focus omega);(focus omega);(focus omega))|(refine PutK.set (HsetIs.miss ?_ (HsetIs.miss ?_ (HsetIs.miss ?_ (HsetIs.miss ?_ (HsetIs.miss ?_ (HsetIs.miss ?_ HsetIs.hit)))))) ?_;(focus omega);(focus omega);(focus omega);(focus omega);(focus omega);(focus omega))|refine PutK.mk' rfl ?_)|((with_reducible refine Upd.id ?_);(refine Upd.lit rfl ?_;(conv=>whnf)))|((with_reducible refine Grow2.id ?_);refine Grow2.own ?_)|((with_reducible refine Side.id ?_);first|refine Side.mk True.intro ?_|refine Side.mk rfl ?_|refine Side.mk (fun h=>h) ?_|(refine Side.mk ?_ ?_;focus (intro hside;rw [hside];done))|(refine Side.mk ?_ ?_;focus (((repeat' apply And.intro)<;>first|exact True.intro|assumption|rfl|omega|(simp;done)|(simp;omega)|(simp only [Bool.and_eq_true,Bool.or_eq_true,Bool.not_eq_true',decide_eq_true_eq,decide_eq_false_iff_not,beq_iff_eq,ne_eq,beq_eq_false_iff_ne,Bool.and_eq_false_iff,Bool.or_eq_false_iff] at *;omega)|(simp +contextual;done));done))|(refine Side.mk ?_ ?_;focus (intro hside;((repeat' apply And.intro)<;>first|exact True.intro|assumption|rfl|omega|(simp;done)|(simp;omega)|(simp only [Bool.and_eq_true,Bool.or_eq_true,Bool.not_eq_true',decide_eq_true_eq,decide_eq_false_iff_not,beq_iff_eq,ne_eq,beq_eq_false_iff_ne,Bool.and_eq_false_iff,Bool.or_eq_false_iff] at *;omega)|(simp +contextual;done));done)))|((with_reducible refine Br.id ?_);first|refine br_true rfl ?_|refine br_false rfl ?_|refine br_true (by with_reducible assumption) ?_|refine br_false (by with_reducible assumption) ?_|refine br_dec_t (by with_reducible assumption) ?_|refine br_dec_f (by with_reducible assumption) ?_|refine br_beq_t (by with_reducible assumption) ?_|refine br_beq_f (by with_reducible assumption) ?_|refine br_bne_t (by with_reducible assumption) ?_|refine br_bne_f (by with_reducible assumption) ?_|refine br_dec (fun _=>?_) (fun _=>?_)|refine br_beq (fun _=>?_) (fun _=>?_)|refine br_bne (fun _=>?_) (fun _=>?_)|refine br_split (fun _=>?_) (fun _=>?_))|((with_reducible refine Look.id ?_);first|(refine Look.hit ?_;try (conv=>arg 7;whnf))|refine Look.miss (by omega) ?_)|((with_reducible refine SemWp.id ?_);first|refine sem_seq ?_|refine sem_region rfl ?_|refine sem_cond rfl ?_|refine sem_block ?_|refine sem_exit ?_|refine sem_ret ?_|refine sem_skip ?_|refine sem_label ?_|refine sem_draw ?_)|((with_reducible refine CallWp.id ?_);first|refine Pur.call (sort_spec b) ?_)|((with_reducible refine QAsk.id ?_);first|(refine Pur.ask (sort_spec b) ?_ ?_;focus (intro h;first|exact True.intro|exact h|exact rfl|exact ⟨h,rfl⟩|exact ⟨h,h,rfl⟩|exact hk|exact ⟨h,hk⟩|exact ⟨h,h,hk⟩|(simp +contextual at h ⊢;done);done)))|((with_reducible refine CallC.id ?_);first|(refine Pur.askC (sort_spec b) ?_ ?_;focus (intro h;first|exact True.intro|exact h|exact rfl|exact ⟨h,rfl⟩|exact ⟨h,h,rfl⟩|exact hk|exact ⟨h,hk⟩|exact ⟨h,h,hk⟩|(simp +contextual at h ⊢;done);done))|refine CallC.two ?_)|((with_reducible refine qThen.id ?_);first|refine qThen.go ?_|refine qThen.ret ?_|refine qThen.exit ?_|refine qThen.pan ?_)|((with_reducible refine hinBlock.id ?_);first|refine hinBlock.go ?_|refine hinBlock.ret ?_|refine hinBlock.pan ?_|refine hinBlock.here rfl ?_|refine hinBlock.on rfl ?_)|((with_reducible refine hround.id ?_);first|refine hround.go ?_|refine hround.ret ?_|refine hround.exit ?_|refine hround.pan ?_)|((with_reducible refine bodyQ.id ?_);first|refine bodyQ.ret rfl ?_|refine bodyQ.ret2 rfl ?_|refine bodyQ.ret0 rfl ?_|refine bodyQ.go ?_|refine bodyQ.pan ?_)|(refine drawQ cx (by decide +kernel) ?_;(conv=>whnf))|((conv=>whnf);first|((with_reducible refine Side.id ?_);first|refine Side.mk True.intro ?_|refine Side.mk rfl ?_|refine Side.mk (fun h=>h) ?_|(refine Side.mk ?_ ?_;focus (intro hside;rw [hside];done))|(refine Side.mk ?_ ?_;focus (((repeat' apply And.intro)<;>first|exact True.intro|assumption|rfl|omega|(simp;done)|(simp;omega)|(simp only [Bool.and_eq_true,Bool.or_eq_true,Bool.not_eq_true',decide_eq_true_eq,decide_eq_false_iff_not,beq_iff_eq,ne_eq,beq_eq_false_iff_ne,Bool.and_eq_false_iff,Bool.or_eq_false_iff] at *;omega)|(simp +contextual;done));done))|(refine Side.mk ?_ ?_;focus (intro hside;((repeat' apply And.intro)<;>first|exact True.intro|assumption|rfl|omega|(simp;done)|(simp;omega)|(simp only [Bool.and_eq_true,Bool.or_eq_true,Bool.not_eq_true',decide_eq_true_eq,decide_eq_false_iff_not,beq_iff_eq,ne_eq,beq_eq_false_iff_ne,Bool.and_eq_false_iff,Bool.or_eq_false_iff] at *;omega)|(simp +contextual;done));done)))|((with_reducible refine Look.id ?_);first|(refine Look.hit ?_;try (conv=>arg 7;whnf))|refine Look.miss (by omega) ?_)|((with_reducible refine QAsk.id ?_);first|(refine Pur.ask (sort_spec b) ?_ ?_;focus (intro h;first|exact True.intro|exact h|exact rfl|exact ⟨h,rfl⟩|exact ⟨h,h,rfl⟩|exact hk|exact ⟨h,hk⟩|exact ⟨h,h,hk⟩|(simp +contextual at h ⊢;done);done)))|((with_reducible refine SemWp.id ?_);first|refine sem_seq ?_|refine sem_region rfl ?_|refine sem_cond rfl ?_|refine sem_block ?_|refine sem_exit ?_|refine sem_ret ?_|refine sem_skip ?_|refine sem_label ?_|refine sem_draw ?_))|fail
 exact Fin.mk ⟨rfl,rfl⟩
theorem line_spec (b:Int):Pur cx 35 [cc b] (bb (b != 10)):=by
 refine ⟨sem_calls cx (fn:=Tryz.f35) rfl rfl rfl rfl ?_⟩
 repeat' first|((with_reducible refine Ops.id ?_);first|(refine Ops.cons rfl ?_;(conv=>arg 7;whnf))|refine Ops.nil ?_)|((with_reducible refine Stp.id ?_);first|refine Stp.pure rfl ?_|refine Stp.val rfl ?_|refine Stp.valC rfl ?_|refine Stp.call ?_|refine Stp.callC ?_|refine Stp.look ?_|refine Stp.eff ?_|refine Stp.effC ?_|refine Stp.pan ?_|refine Stp.panC ?_)|((with_reducible refine PutK.id ?_);first|(refine PutK.set HsetIs.hit ?_)|(refine PutK.set (HsetIs.miss ?_ HsetIs.hit) ?_;(focus omega))|(refine PutK.set (HsetIs.miss ?_ (HsetIs.miss ?_ HsetIs.hit)) ?_;(focus omega);(focus omega))|(refine PutK.set (HsetIs.miss ?_ (HsetIs.miss ?_ (HsetIs.miss ?_ HsetIs.hit))) ?_;(focus omega);(focus omega);(focus omega))|(refine PutK.set (HsetIs.miss ?_ (HsetIs.miss ?_ (HsetIs.miss ?_ (HsetIs.miss ?_ HsetIs.hit)))) ?_;(focus omega);(focus omega);(focus omega);(focus omega))|(refine PutK.set (HsetIs.miss ?_ (HsetIs.miss ?_ (HsetIs.miss ?_ (HsetIs.miss ?_ (HsetIs.miss ?_ HsetIs.hit))))) ?_;(focus omega);(focus omega);(focus omega);(focus omega);(focus omega))|(refine PutK.set (HsetIs.miss ?_ (HsetIs.miss ?_ (HsetIs.miss ?_ (HsetIs.miss ?_ (HsetIs.miss ?_ (HsetIs.miss ?_ HsetIs.hit)))))) ?_;(focus omega);(focus omega);(focus omega);(focus omega);(focus omega);(focus omega))|refine PutK.mk' rfl ?_)|((with_reducible refine Upd.id ?_);(refine Upd.lit rfl ?_;(conv=>whnf)))|((with_reducible refine Grow2.id ?_);refine Grow2.own ?_)|((with_reducible refine Side.id ?_);first|refine Side.mk True.intro ?_|refine Side.mk rfl ?_|refine Side.mk (fun h=>h) ?_|(refine Side.mk ?_ ?_;focus (intro hside;rw [hside];done))|(refine Side.mk ?_ ?_;focus (((repeat' apply And.intro)<;>first|exact True.intro|assumption|rfl|omega|(simp;done)|(simp;omega)|(simp only [Bool.and_eq_true,Bool.or_eq_true,Bool.not_eq_true',decide_eq_true_eq,decide_eq_false_iff_not,beq_iff_eq,ne_eq,beq_eq_false_iff_ne,Bool.and_eq_false_iff,Bool.or_eq_false_iff] at *;omega)|(simp +contextual;done));done))|(refine Side.mk ?_ ?_;focus (intro hside;((repeat' apply And.intro)<;>first|exact True.intro|assumption|rfl|omega|(simp;done)|(simp;omega)|(simp only [Bool.and_eq_true,Bool.or_eq_true,Bool.not_eq_true',decide_eq_true_eq,decide_eq_false_iff_not,beq_iff_eq,ne_eq,beq_eq_false_iff_ne,Bool.and_eq_false_iff,Bool.or_eq_false_iff] at *;omega)|(simp +contextual;done));done)))|((with_reducible refine Br.id ?_);first|refine br_true rfl ?_|refine br_false rfl ?_|refine br_true (by with_reducible assumption) ?_|refine br_false (by with_reducible assumption) ?_|refine br_dec_t (by with_reducible assumption) ?_|refine br_dec_f (by with_reducible assumption) ?_|refine br_beq_t (by with_reducible assumption) ?_|refine br_beq_f (by with_reducible assumption) ?_|refine br_bne_t (by with_reducible assumption) ?_|refine br_bne_f (by with_reducible assumption) ?_|refine br_dec (fun _=>?_) (fun _=>?_)|refine br_beq (fun _=>?_) (fun _=>?_)|refine br_bne (fun _=>?_) (fun _=>?_)|refine br_split (fun _=>?_) (fun _=>?_))|((with_reducible refine Look.id ?_);first|(refine Look.hit ?_;try (conv=>arg 7;whnf))|refine Look.miss (by omega) ?_)|((with_reducible refine SemWp.id ?_);first|refine sem_seq ?_|refine sem_region rfl ?_|refine sem_cond rfl ?_|refine sem_block ?_|refine sem_exit ?_|refine sem_ret ?_|refine sem_skip ?_|refine sem_label ?_|refine sem_draw ?_)|((with_reducible refine CallC.id ?_);first|refine CallC.two ?_)|((with_reducible refine qThen.id ?_);first|refine qThen.go ?_|refine qThen.ret ?_|refine qThen.exit ?_|refine qThen.pan ?_)|((with_reducible refine hinBlock.id ?_);first|refine hinBlock.go ?_|refine hinBlock.ret ?_|refine hinBlock.pan ?_|refine hinBlock.here rfl ?_|refine hinBlock.on rfl ?_)|((with_reducible refine hround.id ?_);first|refine hround.go ?_|refine hround.ret ?_|refine hround.exit ?_|refine hround.pan ?_)|((with_reducible refine bodyQ.id ?_);first|refine bodyQ.ret rfl ?_|refine bodyQ.ret2 rfl ?_|refine bodyQ.ret0 rfl ?_|refine bodyQ.go ?_|refine bodyQ.pan ?_)|(refine drawQ cx (by decide +kernel) ?_;(conv=>whnf))|((conv=>whnf);first|((with_reducible refine Side.id ?_);first|refine Side.mk True.intro ?_|refine Side.mk rfl ?_|refine Side.mk (fun h=>h) ?_|(refine Side.mk ?_ ?_;focus (intro hside;rw [hside];done))|(refine Side.mk ?_ ?_;focus (((repeat' apply And.intro)<;>first|exact True.intro|assumption|rfl|omega|(simp;done)|(simp;omega)|(simp only [Bool.and_eq_true,Bool.or_eq_true,Bool.not_eq_true',decide_eq_true_eq,decide_eq_false_iff_not,beq_iff_eq,ne_eq,beq_eq_false_iff_ne,Bool.and_eq_false_iff,Bool.or_eq_false_iff] at *;omega)|(simp +contextual;done));done))|(refine Side.mk ?_ ?_;focus (intro hside;((repeat' apply And.intro)<;>first|exact True.intro|assumption|rfl|omega|(simp;done)|(simp;omega)|(simp only [Bool.and_eq_true,Bool.or_eq_true,Bool.not_eq_true',decide_eq_true_eq,decide_eq_false_iff_not,beq_iff_eq,ne_eq,beq_eq_false_iff_ne,Bool.and_eq_false_iff,Bool.or_eq_false_iff] at *;omega)|(simp +contextual;done));done)))|((with_reducible refine Look.id ?_);first|(refine Look.hit ?_;try (conv=>arg 7;whnf))|refine Look.miss (by omega) ?_)|((with_reducible refine SemWp.id ?_);first|refine sem_seq ?_|refine sem_region rfl ?_|refine sem_cond rfl ?_|refine sem_block ?_|refine sem_exit ?_|refine sem_ret ?_|refine sem_skip ?_|refine sem_label ?_|refine sem_draw ?_))|fail
 exact Fin.mk ⟨rfl,rfl⟩
def keyS (s:ByteArray):Bool:=strEq s ⟨#[112,114,111,99]⟩||strEq s ⟨#[118,97,114]⟩||strEq s ⟨#[104,97,118,111,99]⟩||strEq s ⟨#[97,115,115,117,109,101]⟩||strEq s ⟨#[97,115,115,101,114,116]⟩||strEq s ⟨#[105,102]⟩||strEq s ⟨#[101,108,115,101]⟩||strEq s ⟨#[119,104,105,108,101]⟩||strEq s ⟨#[101,105,116,104,101,114]⟩||strEq s ⟨#[111,114]⟩||strEq s ⟨#[97,110,100]⟩||strEq s ⟨#[110,111,116]⟩||strEq s ⟨#[116,114,117,101]⟩||strEq s ⟨#[102,97,108,115,101]⟩||strEq s ⟨#[115,107,105,112]⟩
theorem key_spec (s:ByteArray):Pur cx 36 [ss s] (bb (keyS s)):=by
 refine ⟨sem_calls cx (fn:=Tryz.f36) rfl rfl rfl rfl ?_⟩
 repeat' first|((with_reducible refine Ops.id ?_);first|(refine Ops.cons rfl ?_;(conv=>arg 7;whnf))|refine Ops.nil ?_)|((with_reducible refine Stp.id ?_);first|refine Stp.pure rfl ?_|refine Stp.val rfl ?_|refine Stp.valC rfl ?_|refine Stp.call ?_|refine Stp.callC ?_|refine Stp.look ?_|refine Stp.eff ?_|refine Stp.effC ?_|refine Stp.pan ?_|refine Stp.panC ?_)|((with_reducible refine PutK.id ?_);first|(refine PutK.set HsetIs.hit ?_)|(refine PutK.set (HsetIs.miss ?_ HsetIs.hit) ?_;(focus omega))|(refine PutK.set (HsetIs.miss ?_ (HsetIs.miss ?_ HsetIs.hit)) ?_;(focus omega);(focus omega))|(refine PutK.set (HsetIs.miss ?_ (HsetIs.miss ?_ (HsetIs.miss ?_ HsetIs.hit))) ?_;(focus omega);(focus omega);(focus omega))|(refine PutK.set (HsetIs.miss ?_ (HsetIs.miss ?_ (HsetIs.miss ?_ (HsetIs.miss ?_ HsetIs.hit)))) ?_;(focus omega);(focus omega);(focus omega);(focus omega))|(refine PutK.set (HsetIs.miss ?_ (HsetIs.miss ?_ (HsetIs.miss ?_ (HsetIs.miss ?_ (HsetIs.miss ?_ HsetIs.hit))))) ?_;(focus omega);(focus omega);(focus omega);(focus omega);(focus omega))|(refine PutK.set (HsetIs.miss ?_ (HsetIs.miss ?_ (HsetIs.miss ?_ (HsetIs.miss ?_ (HsetIs.miss ?_ (HsetIs.miss ?_ HsetIs.hit)))))) ?_;(focus omega);(focus omega);(focus omega);(focus omega);(focus omega);(focus omega))|refine PutK.mk' rfl ?_)|((with_reducible refine Upd.id ?_);(refine Upd.lit rfl ?_;(conv=>whnf)))|((with_reducible refine Grow2.id ?_);refine Grow2.own ?_)|((with_reducible refine Side.id ?_);first|refine Side.mk True.intro ?_|refine Side.mk rfl ?_|refine Side.mk (fun h=>h) ?_|(refine Side.mk ?_ ?_;focus (intro hside;rw [hside];done))|(refine Side.mk ?_ ?_;focus (((repeat' apply And.intro)<;>first|exact True.intro|assumption|rfl|omega|(simp;done)|(simp;omega)|(simp only [Bool.and_eq_true,Bool.or_eq_true,Bool.not_eq_true',decide_eq_true_eq,decide_eq_false_iff_not,beq_iff_eq,ne_eq,beq_eq_false_iff_ne,Bool.and_eq_false_iff,Bool.or_eq_false_iff] at *;omega)|(simp +contextual;done));done))|(refine Side.mk ?_ ?_;focus (intro hside;((repeat' apply And.intro)<;>first|exact True.intro|assumption|rfl|omega|(simp;done)|(simp;omega)|(simp only [Bool.and_eq_true,Bool.or_eq_true,Bool.not_eq_true',decide_eq_true_eq,decide_eq_false_iff_not,beq_iff_eq,ne_eq,beq_eq_false_iff_ne,Bool.and_eq_false_iff,Bool.or_eq_false_iff] at *;omega)|(simp +contextual;done));done)))|((with_reducible refine Br.id ?_);first|refine br_true rfl ?_|refine br_false rfl ?_|refine br_true (by with_reducible assumption) ?_|refine br_false (by with_reducible assumption) ?_|refine br_dec_t (by with_reducible assumption) ?_|refine br_dec_f (by with_reducible assumption) ?_|refine br_beq_t (by with_reducible assumption) ?_|refine br_beq_f (by with_reducible assumption) ?_|refine br_bne_t (by with_reducible assumption) ?_|refine br_bne_f (by with_reducible assumption) ?_|refine br_dec (fun _=>?_) (fun _=>?_)|refine br_beq (fun _=>?_) (fun _=>?_)|refine br_bne (fun _=>?_) (fun _=>?_)|refine br_split (fun _=>?_) (fun _=>?_))|((with_reducible refine Look.id ?_);first|(refine Look.hit ?_;try (conv=>arg 7;whnf))|refine Look.miss (by omega) ?_)|((with_reducible refine SemWp.id ?_);first|refine sem_seq ?_|refine sem_region rfl ?_|refine sem_cond rfl ?_|refine sem_block ?_|refine sem_exit ?_|refine sem_ret ?_|refine sem_skip ?_|refine sem_label ?_|refine sem_draw ?_)|((with_reducible refine CallC.id ?_);first|refine CallC.two ?_)|((with_reducible refine qThen.id ?_);first|refine qThen.go ?_|refine qThen.ret ?_|refine qThen.exit ?_|refine qThen.pan ?_)|((with_reducible refine hinBlock.id ?_);first|refine hinBlock.go ?_|refine hinBlock.ret ?_|refine hinBlock.pan ?_|refine hinBlock.here rfl ?_|refine hinBlock.on rfl ?_)|((with_reducible refine hround.id ?_);first|refine hround.go ?_|refine hround.ret ?_|refine hround.exit ?_|refine hround.pan ?_)|((with_reducible refine bodyQ.id ?_);first|refine bodyQ.ret rfl ?_|refine bodyQ.ret2 rfl ?_|refine bodyQ.ret0 rfl ?_|refine bodyQ.go ?_|refine bodyQ.pan ?_)|(refine drawQ cx (by decide +kernel) ?_;(conv=>whnf))|((conv=>whnf);first|((with_reducible refine Side.id ?_);first|refine Side.mk True.intro ?_|refine Side.mk rfl ?_|refine Side.mk (fun h=>h) ?_|(refine Side.mk ?_ ?_;focus (intro hside;rw [hside];done))|(refine Side.mk ?_ ?_;focus (((repeat' apply And.intro)<;>first|exact True.intro|assumption|rfl|omega|(simp;done)|(simp;omega)|(simp only [Bool.and_eq_true,Bool.or_eq_true,Bool.not_eq_true',decide_eq_true_eq,decide_eq_false_iff_not,beq_iff_eq,ne_eq,beq_eq_false_iff_ne,Bool.and_eq_false_iff,Bool.or_eq_false_iff] at *;omega)|(simp +contextual;done));done))|(refine Side.mk ?_ ?_;focus (intro hside;((repeat' apply And.intro)<;>first|exact True.intro|assumption|rfl|omega|(simp;done)|(simp;omega)|(simp only [Bool.and_eq_true,Bool.or_eq_true,Bool.not_eq_true',decide_eq_true_eq,decide_eq_false_iff_not,beq_iff_eq,ne_eq,beq_eq_false_iff_ne,Bool.and_eq_false_iff,Bool.or_eq_false_iff] at *;omega)|(simp +contextual;done));done)))|((with_reducible refine Look.id ?_);first|(refine Look.hit ?_;try (conv=>arg 7;whnf))|refine Look.miss (by omega) ?_)|((with_reducible refine SemWp.id ?_);first|refine sem_seq ?_|refine sem_region rfl ?_|refine sem_cond rfl ?_|refine sem_block ?_|refine sem_exit ?_|refine sem_ret ?_|refine sem_skip ?_|refine sem_label ?_|refine sem_draw ?_))|fail
 all_goals refine Fin.mk ⟨?_,rfl⟩
 all_goals simp [keyS,bb, *]
def twoS (s:ByteArray):Bool:=strEq s ⟨#[61,61]⟩||strEq s ⟨#[33,61]⟩||strEq s ⟨#[60,61]⟩||strEq s ⟨#[62,61]⟩||strEq s ⟨#[45,62]⟩
def oneZ (b:Int):Bool:=b == 40||b == 41||b == 123||b == 125||b == 91||b == 93||b == 44||b == 59||b == 61||b == 60||b == 62||b == 43||b == 45||b == 42||b == 47||b == 37
/-- How many bytes of a text, not empty, are a sign. -/
def signS (s:ByteArray):Nat:=if 1 < s.size∧twoS (s.extract 0 2)=true then 2 else if oneZ (byteAt s 0)=true then 1 else 0
theorem sign_spec (s:ByteArray) (h0:0 < s.size):Pur cx 39 [ss s] (ii (signS s)):=by
 refine ⟨sem_calls cx (fn:=Tryz.f39) rfl rfl rfl rfl ?_⟩
 repeat' first|((with_reducible refine Ops.id ?_);first|(refine Ops.cons rfl ?_;(conv=>arg 7;whnf))|refine Ops.nil ?_)|((with_reducible refine Stp.id ?_);first|refine Stp.pure rfl ?_|refine Stp.val rfl ?_|refine Stp.valC rfl ?_|refine Stp.call ?_|refine Stp.callC ?_|refine Stp.look ?_|refine Stp.eff ?_|refine Stp.effC ?_|refine Stp.pan ?_|refine Stp.panC ?_)|((with_reducible refine PutK.id ?_);first|(refine PutK.set HsetIs.hit ?_)|(refine PutK.set (HsetIs.miss ?_ HsetIs.hit) ?_;(focus omega))|(refine PutK.set (HsetIs.miss ?_ (HsetIs.miss ?_ HsetIs.hit)) ?_;(focus omega);(focus omega))|(refine PutK.set (HsetIs.miss ?_ (HsetIs.miss ?_ (HsetIs.miss ?_ HsetIs.hit))) ?_;(focus omega);(focus omega);(focus omega))|(refine PutK.set (HsetIs.miss ?_ (HsetIs.miss ?_ (HsetIs.miss ?_ (HsetIs.miss ?_ HsetIs.hit)))) ?_;(focus omega);(focus omega);(focus omega);(focus omega))|(refine PutK.set (HsetIs.miss ?_ (HsetIs.miss ?_ (HsetIs.miss ?_ (HsetIs.miss ?_ (HsetIs.miss ?_ HsetIs.hit))))) ?_;(focus omega);(focus omega);(focus omega);(focus omega);(focus omega))|(refine PutK.set (HsetIs.miss ?_ (HsetIs.miss ?_ (HsetIs.miss ?_ (HsetIs.miss ?_ (HsetIs.miss ?_ (HsetIs.miss ?_ HsetIs.hit)))))) ?_;(focus omega);(focus omega);(focus omega);(focus omega);(focus omega);(focus omega))|refine PutK.mk' rfl ?_)|((with_reducible refine Upd.id ?_);(refine Upd.lit rfl ?_;(conv=>whnf)))|((with_reducible refine Grow2.id ?_);refine Grow2.own ?_)|((with_reducible refine Side.id ?_);first|refine Side.mk True.intro ?_|refine Side.mk rfl ?_|refine Side.mk (fun h=>h) ?_|(refine Side.mk ?_ ?_;focus (intro hside;rw [hside];done))|(refine Side.mk ?_ ?_;focus (((repeat' apply And.intro)<;>first|exact True.intro|assumption|rfl|omega|(simp;done)|(simp;omega)|(simp only [Bool.and_eq_true,Bool.or_eq_true,Bool.not_eq_true',decide_eq_true_eq,decide_eq_false_iff_not,beq_iff_eq,ne_eq,beq_eq_false_iff_ne,Bool.and_eq_false_iff,Bool.or_eq_false_iff] at *;omega)|(simp +contextual;done));done))|(refine Side.mk ?_ ?_;focus (intro hside;((repeat' apply And.intro)<;>first|exact True.intro|assumption|rfl|omega|(simp;done)|(simp;omega)|(simp only [Bool.and_eq_true,Bool.or_eq_true,Bool.not_eq_true',decide_eq_true_eq,decide_eq_false_iff_not,beq_iff_eq,ne_eq,beq_eq_false_iff_ne,Bool.and_eq_false_iff,Bool.or_eq_false_iff] at *;omega)|(simp +contextual;done));done)))|((with_reducible refine Br.id ?_);first|refine br_true rfl ?_|refine br_false rfl ?_|refine br_true (by with_reducible assumption) ?_|refine br_false (by with_reducible assumption) ?_|refine br_dec_t (by with_reducible assumption) ?_|refine br_dec_f (by with_reducible assumption) ?_|refine br_beq_t (by with_reducible assumption) ?_|refine br_beq_f (by with_reducible assumption) ?_|refine br_bne_t (by with_reducible assumption) ?_|refine br_bne_f (by with_reducible assumption) ?_|refine br_dec (fun _=>?_) (fun _=>?_)|refine br_beq (fun _=>?_) (fun _=>?_)|refine br_bne (fun _=>?_) (fun _=>?_)|refine br_split (fun _=>?_) (fun _=>?_))|((with_reducible refine Look.id ?_);first|(refine Look.hit ?_;try (conv=>arg 7;whnf))|refine Look.miss (by omega) ?_)|((with_reducible refine SemWp.id ?_);first|refine sem_seq ?_|refine sem_region rfl ?_|refine sem_cond rfl ?_|refine sem_block ?_|refine sem_exit ?_|refine sem_ret ?_|refine sem_skip ?_|refine sem_label ?_|refine sem_draw ?_)|((with_reducible refine CallC.id ?_);first|refine CallC.two ?_)|((with_reducible refine qThen.id ?_);first|refine qThen.go ?_|refine qThen.ret ?_|refine qThen.exit ?_|refine qThen.pan ?_)|((with_reducible refine hinBlock.id ?_);first|refine hinBlock.go ?_|refine hinBlock.ret ?_|refine hinBlock.pan ?_|refine hinBlock.here rfl ?_|refine hinBlock.on rfl ?_)|((with_reducible refine hround.id ?_);first|refine hround.go ?_|refine hround.ret ?_|refine hround.exit ?_|refine hround.pan ?_)|((with_reducible refine bodyQ.id ?_);first|refine bodyQ.ret rfl ?_|refine bodyQ.ret2 rfl ?_|refine bodyQ.ret0 rfl ?_|refine bodyQ.go ?_|refine bodyQ.pan ?_)|(refine drawQ cx (by decide +kernel) ?_;(conv=>whnf))|((conv=>whnf);first|((with_reducible refine Side.id ?_);first|refine Side.mk True.intro ?_|refine Side.mk rfl ?_|refine Side.mk (fun h=>h) ?_|(refine Side.mk ?_ ?_;focus (intro hside;rw [hside];done))|(refine Side.mk ?_ ?_;focus (((repeat' apply And.intro)<;>first|exact True.intro|assumption|rfl|omega|(simp;done)|(simp;omega)|(simp only [Bool.and_eq_true,Bool.or_eq_true,Bool.not_eq_true',decide_eq_true_eq,decide_eq_false_iff_not,beq_iff_eq,ne_eq,beq_eq_false_iff_ne,Bool.and_eq_false_iff,Bool.or_eq_false_iff] at *;omega)|(simp +contextual;done));done))|(refine Side.mk ?_ ?_;focus (intro hside;((repeat' apply And.intro)<;>first|exact True.intro|assumption|rfl|omega|(simp;done)|(simp;omega)|(simp only [Bool.and_eq_true,Bool.or_eq_true,Bool.not_eq_true',decide_eq_true_eq,decide_eq_false_iff_not,beq_iff_eq,ne_eq,beq_eq_false_iff_ne,Bool.and_eq_false_iff,Bool.or_eq_false_iff] at *;omega)|(simp +contextual;done));done)))|((with_reducible refine Look.id ?_);first|(refine Look.hit ?_;try (conv=>arg 7;whnf))|refine Look.miss (by omega) ?_)|((with_reducible refine SemWp.id ?_);first|refine sem_seq ?_|refine sem_region rfl ?_|refine sem_cond rfl ?_|refine sem_block ?_|refine sem_exit ?_|refine sem_ret ?_|refine sem_skip ?_|refine sem_label ?_|refine sem_draw ?_))|fail
 all_goals refine Fin.mk ⟨?_,rfl⟩
 all_goals (try simp only [show Int.toNat 2=2 from rfl] at *)
 all_goals first
  |(have h1:1 < s.size:=by omega
    simp [signS,twoS,oneZ,ii,h1, *];done)
  |(have h1:¬ 1 < s.size:=by omega
    simp [signS,twoS,oneZ,ii,h1, *];done)
/-- What a number is refused for. -/
def numberS (s:ByteArray) (more:Bool):Int:=if s.size > 9 then 2 else if (decide (s.size > 1) && byteAt s 0 == 48||more)=true then 3 else 0
theorem number_spec (s:ByteArray) (more:Bool):Pur cx 38 [ss s,bb more] (ii (numberS s more)):=by
 refine ⟨sem_calls cx (fn:=Tryz.f38) rfl rfl rfl rfl ?_⟩
 repeat' first|((with_reducible refine Ops.id ?_);first|(refine Ops.cons rfl ?_;(conv=>arg 7;whnf))|refine Ops.nil ?_)|((with_reducible refine Stp.id ?_);first|refine Stp.pure rfl ?_|refine Stp.val rfl ?_|refine Stp.valC rfl ?_|refine Stp.call ?_|refine Stp.callC ?_|refine Stp.look ?_|refine Stp.eff ?_|refine Stp.effC ?_|refine Stp.pan ?_|refine Stp.panC ?_)|((with_reducible refine PutK.id ?_);first|(refine PutK.set HsetIs.hit ?_)|(refine PutK.set (HsetIs.miss ?_ HsetIs.hit) ?_;(focus omega))|(refine PutK.set (HsetIs.miss ?_ (HsetIs.miss ?_ HsetIs.hit)) ?_;(focus omega);(focus omega))|(refine PutK.set (HsetIs.miss ?_ (HsetIs.miss ?_ (HsetIs.miss ?_ HsetIs.hit))) ?_;(focus omega);(focus omega);(focus omega))|(refine PutK.set (HsetIs.miss ?_ (HsetIs.miss ?_ (HsetIs.miss ?_ (HsetIs.miss ?_ HsetIs.hit)))) ?_;(focus omega);(focus omega);(focus omega);(focus omega))|(refine PutK.set (HsetIs.miss ?_ (HsetIs.miss ?_ (HsetIs.miss ?_ (HsetIs.miss ?_ (HsetIs.miss ?_ HsetIs.hit))))) ?_;(focus omega);(focus omega);(focus omega);(focus omega);(focus omega))|(refine PutK.set (HsetIs.miss ?_ (HsetIs.miss ?_ (HsetIs.miss ?_ (HsetIs.miss ?_ (HsetIs.miss ?_ (HsetIs.miss ?_ HsetIs.hit)))))) ?_;(focus omega);(focus omega);(focus omega);(focus omega);(focus omega);(focus omega))|refine PutK.mk' rfl ?_)|((with_reducible refine Upd.id ?_);(refine Upd.lit rfl ?_;(conv=>whnf)))|((with_reducible refine Grow2.id ?_);refine Grow2.own ?_)|((with_reducible refine Side.id ?_);first|refine Side.mk True.intro ?_|refine Side.mk rfl ?_|refine Side.mk (fun h=>h) ?_|(refine Side.mk ?_ ?_;focus (intro hside;rw [hside];done))|(refine Side.mk ?_ ?_;focus (((repeat' apply And.intro)<;>first|exact True.intro|assumption|rfl|omega|(simp;done)|(simp;omega)|(simp only [Bool.and_eq_true,Bool.or_eq_true,Bool.not_eq_true',decide_eq_true_eq,decide_eq_false_iff_not,beq_iff_eq,ne_eq,beq_eq_false_iff_ne,Bool.and_eq_false_iff,Bool.or_eq_false_iff] at *;omega)|(simp +contextual;done));done))|(refine Side.mk ?_ ?_;focus (intro hside;((repeat' apply And.intro)<;>first|exact True.intro|assumption|rfl|omega|(simp;done)|(simp;omega)|(simp only [Bool.and_eq_true,Bool.or_eq_true,Bool.not_eq_true',decide_eq_true_eq,decide_eq_false_iff_not,beq_iff_eq,ne_eq,beq_eq_false_iff_ne,Bool.and_eq_false_iff,Bool.or_eq_false_iff] at *;omega)|(simp +contextual;done));done)))|((with_reducible refine Br.id ?_);first|refine br_true rfl ?_|refine br_false rfl ?_|refine br_true (by with_reducible assumption) ?_|refine br_false (by with_reducible assumption) ?_|refine br_dec_t (by with_reducible assumption) ?_|refine br_dec_f (by with_reducible assumption) ?_|refine br_beq_t (by with_reducible assumption) ?_|refine br_beq_f (by with_reducible assumption) ?_|refine br_bne_t (by with_reducible assumption) ?_|refine br_bne_f (by with_reducible assumption) ?_|refine br_dec (fun _=>?_) (fun _=>?_)|refine br_beq (fun _=>?_) (fun _=>?_)|refine br_bne (fun _=>?_) (fun _=>?_)|refine br_split (fun _=>?_) (fun _=>?_))|((with_reducible refine Look.id ?_);first|(refine Look.hit ?_;try (conv=>arg 7;whnf))|refine Look.miss (by omega) ?_)|((with_reducible refine SemWp.id ?_);first|refine sem_seq ?_|refine sem_region rfl ?_|refine sem_cond rfl ?_|refine sem_block ?_|refine sem_exit ?_|refine sem_ret ?_|refine sem_skip ?_|refine sem_label ?_|refine sem_draw ?_)|((with_reducible refine CallC.id ?_);first|refine CallC.two ?_)|((with_reducible refine qThen.id ?_);first|refine qThen.go ?_|refine qThen.ret ?_|refine qThen.exit ?_|refine qThen.pan ?_)|((with_reducible refine hinBlock.id ?_);first|refine hinBlock.go ?_|refine hinBlock.ret ?_|refine hinBlock.pan ?_|refine hinBlock.here rfl ?_|refine hinBlock.on rfl ?_)|((with_reducible refine hround.id ?_);first|refine hround.go ?_|refine hround.ret ?_|refine hround.exit ?_|refine hround.pan ?_)|((with_reducible refine bodyQ.id ?_);first|refine bodyQ.ret rfl ?_|refine bodyQ.ret2 rfl ?_|refine bodyQ.ret0 rfl ?_|refine bodyQ.go ?_|refine bodyQ.pan ?_)|(refine drawQ cx (by decide +kernel) ?_;(conv=>whnf))|((conv=>whnf);first|((with_reducible refine Side.id ?_);first|refine Side.mk True.intro ?_|refine Side.mk rfl ?_|refine Side.mk (fun h=>h) ?_|(refine Side.mk ?_ ?_;focus (intro hside;rw [hside];done))|(refine Side.mk ?_ ?_;focus (((repeat' apply And.intro)<;>first|exact True.intro|assumption|rfl|omega|(simp;done)|(simp;omega)|(simp only [Bool.and_eq_true,Bool.or_eq_true,Bool.not_eq_true',decide_eq_true_eq,decide_eq_false_iff_not,beq_iff_eq,ne_eq,beq_eq_false_iff_ne,Bool.and_eq_false_iff,Bool.or_eq_false_iff] at *;omega)|(simp +contextual;done));done))|(refine Side.mk ?_ ?_;focus (intro hside;((repeat' apply And.intro)<;>first|exact True.intro|assumption|rfl|omega|(simp;done)|(simp;omega)|(simp only [Bool.and_eq_true,Bool.or_eq_true,Bool.not_eq_true',decide_eq_true_eq,decide_eq_false_iff_not,beq_iff_eq,ne_eq,beq_eq_false_iff_ne,Bool.and_eq_false_iff,Bool.or_eq_false_iff] at *;omega)|(simp +contextual;done));done)))|((with_reducible refine Look.id ?_);first|(refine Look.hit ?_;try (conv=>arg 7;whnf))|refine Look.miss (by omega) ?_)|((with_reducible refine SemWp.id ?_);first|refine sem_seq ?_|refine sem_region rfl ?_|refine sem_cond rfl ?_|refine sem_block ?_|refine sem_exit ?_|refine sem_ret ?_|refine sem_skip ?_|refine sem_label ?_|refine sem_draw ?_))|fail
 all_goals refine Fin.mk ⟨?_,rfl⟩
 all_goals unfold numberS
 ·rw [if_pos (by omega)];rfl
 ·rename_i h0 h2
  have h2:(decide (s.size > 1) && byteAt s 0 == 48)=true:=by
   rw [←h2];congr 1
   exact decide_eq_decide.2 (by omega)
  rw [if_neg (by omega),if_pos (by rw [h2,Bool.true_or])];rfl
 ·rename_i h0 h2 h3
  have h3:more=true:=h3
  rw [if_neg (by omega),if_pos (by rw [h3,Bool.or_true])];rfl
 ·rename_i h0 h2 h3
  have h3:more=false:=h3
  have h2:(decide (s.size > 1) && byteAt s 0 == 48)=false:=by
   rw [←h2];congr 1
   exact decide_eq_decide.2 (by omega)
  rw [if_neg (by omega),if_neg (by rw [h2,h3];simp)];rfl
end Go.Proofs.Hk

set_option linter.unusedSimpArgs false
set_option linter.unusedVariables false
set_option maxRecDepth 4000
namespace Go.Proofs.Hk
open Go Go.Proofs
/-- As far as bytes are of a sort. -/
def scan (p:Int→Bool) (s:ByteArray) (i:Nat):Nat:=
 if h:i < s.size then (if p (byteAt s i)=true then scan p s (i+1) else i) else i
termination_by s.size - i
theorem scan_ge (p:Int→Bool) (s:ByteArray) (i:Nat):i≤scan p s i:=by
 unfold scan
 split
 ·split
  ·have:=scan_ge p s (i+1);omega
  ·exact Nat.le_refl _
 ·exact Nat.le_refl _
termination_by s.size - i
theorem scan_le (p:Int→Bool) (s:ByteArray) (i:Nat) (h:i≤s.size):scan p s i≤s.size:=by
 unfold scan
 split
 ·split
  ·exact scan_le p s (i+1) (by omega)
  ·exact h
 ·exact h
termination_by s.size - i
theorem scan_yes {p:Int→Bool} {s:ByteArray} {i:Nat} (h:i < s.size) (hp:p (byteAt s i)=true):scan p s (i+1)=scan p s i:=by
 conv=>rhs;unfold scan
 rw [dif_pos h,if_pos hp]
theorem scan_no {p:Int→Bool} {s:ByteArray} {i:Nat} (hp:p (byteAt s i)=false):scan p s i=i:=by
 unfold scan
 split
 ·rw [if_neg (by rw [hp];simp)]
 ·rfl
theorem scan_end {p:Int→Bool} {s:ByteArray} {i:Nat} (h:¬ i < s.size):scan p s i=i:=by
 unfold scan
 rw [dif_neg h]
theorem run_spec (p:Int→Bool) (k:Nat) (hk:cx.fn k=true) (hp:∀ x,Pur cx k [cc x] (bb (p x))) (a b:Nat) (s:ByteArray) (hs:s.size≤8192) (i:Nat) (hi:i≤s.size) (hab:a≠b) :
  HCalls cx.P 32 [.fn (.func k) [] [],.ptr a 0,.ptr b 0] [(a,.cells [ii i] 3),(b,.cells [ss s] 9)] fun e st=>
   e = .ret (ss (s.extract i (scan p s i)))∧st=[(a,.cells [ii (scan p s i)] 3),(b,.cells [ss s] 9)]:=by
 refine sem_calls cx (fn:=Tryz.f32) rfl rfl rfl rfl ?_
 repeat' first|((with_reducible refine Ops.id ?_);first|(refine Ops.cons rfl ?_;(conv=>arg 7;whnf))|refine Ops.nil ?_)|((with_reducible refine Stp.id ?_);first|refine Stp.pure rfl ?_|refine Stp.val rfl ?_|refine Stp.valC rfl ?_|refine Stp.call ?_|refine Stp.callC ?_|refine Stp.look ?_|refine Stp.eff ?_|refine Stp.effC ?_|refine Stp.pan ?_|refine Stp.panC ?_)|((with_reducible refine PutK.id ?_);first|(refine PutK.set HsetIs.hit ?_)|(refine PutK.set (HsetIs.miss ?_ HsetIs.hit) ?_;(focus omega))|(refine PutK.set (HsetIs.miss ?_ (HsetIs.miss ?_ HsetIs.hit)) ?_;(focus omega);(focus omega))|(refine PutK.set (HsetIs.miss ?_ (HsetIs.miss ?_ (HsetIs.miss ?_ HsetIs.hit))) ?_;(focus omega);(focus omega);(focus omega))|(refine PutK.set (HsetIs.miss ?_ (HsetIs.miss ?_ (HsetIs.miss ?_ (HsetIs.miss ?_ HsetIs.hit)))) ?_;(focus omega);(focus omega);(focus omega);(focus omega))|(refine PutK.set (HsetIs.miss ?_ (HsetIs.miss ?_ (HsetIs.miss ?_ (HsetIs.miss ?_ (HsetIs.miss ?_ HsetIs.hit))))) ?_;(focus omega);(focus omega);(focus omega);(focus omega);(focus omega))|(refine PutK.set (HsetIs.miss ?_ (HsetIs.miss ?_ (HsetIs.miss ?_ (HsetIs.miss ?_ (HsetIs.miss ?_ (HsetIs.miss ?_ HsetIs.hit)))))) ?_;(focus omega);(focus omega);(focus omega);(focus omega);(focus omega);(focus omega))|refine PutK.mk' rfl ?_)|((with_reducible refine Upd.id ?_);(refine Upd.lit rfl ?_;(conv=>whnf)))|((with_reducible refine Grow2.id ?_);refine Grow2.own ?_)|((with_reducible refine Side.id ?_);first|refine Side.mk True.intro ?_|refine Side.mk rfl ?_|refine Side.mk (fun h=>h) ?_|(refine Side.mk ?_ ?_;focus (intro hside;rw [hside];done))|(refine Side.mk ?_ ?_;focus (((repeat' apply And.intro)<;>first|exact True.intro|assumption|rfl|omega|(simp;done)|(simp;omega)|(simp only [Bool.and_eq_true,Bool.or_eq_true,Bool.not_eq_true',decide_eq_true_eq,decide_eq_false_iff_not,beq_iff_eq,ne_eq,beq_eq_false_iff_ne,Bool.and_eq_false_iff,Bool.or_eq_false_iff] at *;omega)|(simp +contextual;done));done))|(refine Side.mk ?_ ?_;focus (intro hside;((repeat' apply And.intro)<;>first|exact True.intro|assumption|rfl|omega|(simp;done)|(simp;omega)|(simp only [Bool.and_eq_true,Bool.or_eq_true,Bool.not_eq_true',decide_eq_true_eq,decide_eq_false_iff_not,beq_iff_eq,ne_eq,beq_eq_false_iff_ne,Bool.and_eq_false_iff,Bool.or_eq_false_iff] at *;omega)|(simp +contextual;done));done)))|((with_reducible refine Br.id ?_);first|refine br_true rfl ?_|refine br_false rfl ?_|refine br_true (by with_reducible assumption) ?_|refine br_false (by with_reducible assumption) ?_|refine br_dec_t (by with_reducible assumption) ?_|refine br_dec_f (by with_reducible assumption) ?_|refine br_beq_t (by with_reducible assumption) ?_|refine br_beq_f (by with_reducible assumption) ?_|refine br_bne_t (by with_reducible assumption) ?_|refine br_bne_f (by with_reducible assumption) ?_|refine br_dec (fun _=>?_) (fun _=>?_)|refine br_beq (fun _=>?_) (fun _=>?_)|refine br_bne (fun _=>?_) (fun _=>?_)|refine br_split (fun _=>?_) (fun _=>?_))|((with_reducible refine Look.id ?_);first|(refine Look.hit ?_;try (conv=>arg 7;whnf))|refine Look.miss (by omega) ?_)|((with_reducible refine SemWp.id ?_);first|refine sem_seq ?_|refine sem_region rfl ?_|refine sem_cond rfl ?_|refine sem_block ?_|refine sem_exit ?_|refine sem_ret ?_|refine sem_skip ?_|refine sem_label ?_|refine sem_draw ?_)|((with_reducible refine CallC.id ?_);first|refine CallC.two ?_)|((with_reducible refine qThen.id ?_);first|refine qThen.go ?_|refine qThen.ret ?_|refine qThen.exit ?_|refine qThen.pan ?_)|((with_reducible refine hinBlock.id ?_);first|refine hinBlock.go ?_|refine hinBlock.ret ?_|refine hinBlock.pan ?_|refine hinBlock.here rfl ?_|refine hinBlock.on rfl ?_)|((with_reducible refine hround.id ?_);first|refine hround.go ?_|refine hround.ret ?_|refine hround.exit ?_|refine hround.pan ?_)|((with_reducible refine bodyQ.id ?_);first|refine bodyQ.ret rfl ?_|refine bodyQ.ret2 rfl ?_|refine bodyQ.ret0 rfl ?_|refine bodyQ.go ?_|refine bodyQ.pan ?_)|(refine drawQ cx (by decide +kernel) ?_;(conv=>whnf))|((conv=>whnf);first|((with_reducible refine Side.id ?_);first|refine Side.mk True.intro ?_|refine Side.mk rfl ?_|refine Side.mk (fun h=>h) ?_|(refine Side.mk ?_ ?_;focus (intro hside;rw [hside];done))|(refine Side.mk ?_ ?_;focus (((repeat' apply And.intro)<;>first|exact True.intro|assumption|rfl|omega|(simp;done)|(simp;omega)|(simp only [Bool.and_eq_true,Bool.or_eq_true,Bool.not_eq_true',decide_eq_true_eq,decide_eq_false_iff_not,beq_iff_eq,ne_eq,beq_eq_false_iff_ne,Bool.and_eq_false_iff,Bool.or_eq_false_iff] at *;omega)|(simp +contextual;done));done))|(refine Side.mk ?_ ?_;focus (intro hside;((repeat' apply And.intro)<;>first|exact True.intro|assumption|rfl|omega|(simp;done)|(simp;omega)|(simp only [Bool.and_eq_true,Bool.or_eq_true,Bool.not_eq_true',decide_eq_true_eq,decide_eq_false_iff_not,beq_iff_eq,ne_eq,beq_eq_false_iff_ne,Bool.and_eq_false_iff,Bool.or_eq_false_iff] at *;omega)|(simp +contextual;done));done)))|((with_reducible refine Look.id ?_);first|(refine Look.hit ?_;try (conv=>arg 7;whnf))|refine Look.miss (by omega) ?_)|((with_reducible refine SemWp.id ?_);first|refine sem_seq ?_|refine sem_region rfl ?_|refine sem_cond rfl ?_|refine sem_block ?_|refine sem_exit ?_|refine sem_ret ?_|refine sem_skip ?_|refine sem_label ?_|refine sem_draw ?_))|fail
 refine sem_loop cx (ι:=Nat) (fun j=>i≤j∧j≤s.size∧scan p s j=scan p s i)
  (fun j=>[(0,.sure,.fn (.func k) [] []),(1,.sure,.ptr a 0),(2,.sure,.ptr b 0),(5,.sure,ii i)])
  (fun j=>[(a,.cells [ii j] 3),(b,.cells [ss s] 9)]) (fun j=>s.size - j) i ⟨Nat.le_refl _,hi,rfl⟩ ?_ ?_ ?_
 ·exact Sub.cons rfl rfl (Sub.cons rfl rfl (Sub.cons rfl rfl (Sub.cons rfl rfl (Sub.nil _))))
 ·exact Subp.refl _
 rintro j ⟨h1,h2,h3⟩
 repeat' first|((with_reducible refine Ops.id ?_);first|(refine Ops.cons rfl ?_;(conv=>arg 7;whnf))|refine Ops.nil ?_)|((with_reducible refine Stp.id ?_);first|refine Stp.pure rfl ?_|refine Stp.val rfl ?_|refine Stp.valC rfl ?_|refine Stp.call ?_|refine Stp.callC ?_|refine Stp.look ?_|refine Stp.eff ?_|refine Stp.effC ?_|refine Stp.pan ?_|refine Stp.panC ?_)|((with_reducible refine PutK.id ?_);first|(refine PutK.set HsetIs.hit ?_)|(refine PutK.set (HsetIs.miss ?_ HsetIs.hit) ?_;(focus omega))|(refine PutK.set (HsetIs.miss ?_ (HsetIs.miss ?_ HsetIs.hit)) ?_;(focus omega);(focus omega))|(refine PutK.set (HsetIs.miss ?_ (HsetIs.miss ?_ (HsetIs.miss ?_ HsetIs.hit))) ?_;(focus omega);(focus omega);(focus omega))|(refine PutK.set (HsetIs.miss ?_ (HsetIs.miss ?_ (HsetIs.miss ?_ (HsetIs.miss ?_ HsetIs.hit)))) ?_;(focus omega);(focus omega);(focus omega);(focus omega))|(refine PutK.set (HsetIs.miss ?_ (HsetIs.miss ?_ (HsetIs.miss ?_ (HsetIs.miss ?_ (HsetIs.miss ?_ HsetIs.hit))))) ?_;(focus omega);(focus omega);(focus omega);(focus omega);(focus omega))|(refine PutK.set (HsetIs.miss ?_ (HsetIs.miss ?_ (HsetIs.miss ?_ (HsetIs.miss ?_ (HsetIs.miss ?_ (HsetIs.miss ?_ HsetIs.hit)))))) ?_;(focus omega);(focus omega);(focus omega);(focus omega);(focus omega);(focus omega))|refine PutK.mk' rfl ?_)|((with_reducible refine Upd.id ?_);(refine Upd.lit rfl ?_;(conv=>whnf)))|((with_reducible refine Grow2.id ?_);refine Grow2.own ?_)|((with_reducible refine Side.id ?_);first|refine Side.mk True.intro ?_|refine Side.mk rfl ?_|refine Side.mk (fun h=>h) ?_|refine Side.mk hk ?_|(refine Side.mk ?_ ?_;focus (intro hside;rw [hside];done))|(refine Side.mk ?_ ?_;focus (((repeat' apply And.intro)<;>first|exact True.intro|assumption|rfl|omega|(simp;done)|(simp;omega)|(simp only [Bool.and_eq_true,Bool.or_eq_true,Bool.not_eq_true',decide_eq_true_eq,decide_eq_false_iff_not,beq_iff_eq,ne_eq,beq_eq_false_iff_ne,Bool.and_eq_false_iff,Bool.or_eq_false_iff] at *;omega)|(simp +contextual;done));done))|(refine Side.mk ?_ ?_;focus (intro hside;((repeat' apply And.intro)<;>first|exact True.intro|assumption|rfl|omega|(simp;done)|(simp;omega)|(simp only [Bool.and_eq_true,Bool.or_eq_true,Bool.not_eq_true',decide_eq_true_eq,decide_eq_false_iff_not,beq_iff_eq,ne_eq,beq_eq_false_iff_ne,Bool.and_eq_false_iff,Bool.or_eq_false_iff] at *;omega)|(simp +contextual;done));done)))|((with_reducible refine Br.id ?_);first|refine br_true rfl ?_|refine br_false rfl ?_|refine br_true (by with_reducible assumption) ?_|refine br_false (by with_reducible assumption) ?_|refine br_dec_t (by with_reducible assumption) ?_|refine br_dec_f (by with_reducible assumption) ?_|refine br_beq_t (by with_reducible assumption) ?_|refine br_beq_f (by with_reducible assumption) ?_|refine br_bne_t (by with_reducible assumption) ?_|refine br_bne_f (by with_reducible assumption) ?_|refine br_dec (fun _=>?_) (fun _=>?_)|refine br_beq (fun _=>?_) (fun _=>?_)|refine br_bne (fun _=>?_) (fun _=>?_)|refine br_split (fun _=>?_) (fun _=>?_))|((with_reducible refine Look.id ?_);first|(refine Look.hit ?_;try (conv=>arg 7;whnf))|refine Look.miss (by omega) ?_)|((with_reducible refine SemWp.id ?_);first|refine sem_seq ?_|refine sem_region rfl ?_|refine sem_cond rfl ?_|refine sem_block ?_|refine sem_exit ?_|refine sem_ret ?_|refine sem_skip ?_|refine sem_label ?_|refine sem_draw ?_)|((with_reducible refine CallWp.id ?_);first|refine Pur.call (hp _) ?_)|((with_reducible refine QAsk.id ?_);first|(refine Pur.ask (hp _) ?_ ?_;focus (intro h;first|exact True.intro|exact h|exact rfl|exact ⟨h,rfl⟩|exact ⟨h,h,rfl⟩|exact hk|exact ⟨h,hk⟩|exact ⟨h,h,hk⟩|(simp +contextual at h ⊢;done);done)))|((with_reducible refine CallC.id ?_);first|(refine Pur.askC (hp _) ?_ ?_;focus (intro h;first|exact True.intro|exact h|exact rfl|exact ⟨h,rfl⟩|exact ⟨h,h,rfl⟩|exact hk|exact ⟨h,hk⟩|exact ⟨h,h,hk⟩|(simp +contextual at h ⊢;done);done))|refine CallC.two ?_)|((with_reducible refine qThen.id ?_);first|refine qThen.go ?_|refine qThen.ret ?_|refine qThen.exit ?_|refine qThen.pan ?_)|((with_reducible refine hinBlock.id ?_);first|refine hinBlock.go ?_|refine hinBlock.ret ?_|refine hinBlock.pan ?_|refine hinBlock.here rfl ?_|refine hinBlock.on rfl ?_)|((with_reducible refine hround.id ?_);first|refine hround.go ?_|refine hround.ret ?_|refine hround.exit ?_|refine hround.pan ?_)|((with_reducible refine bodyQ.id ?_);first|refine bodyQ.ret rfl ?_|refine bodyQ.ret2 rfl ?_|refine bodyQ.ret0 rfl ?_|refine bodyQ.go ?_|refine bodyQ.pan ?_)|(refine drawQ cx (by decide +kernel) ?_;(conv=>whnf))|((conv=>whnf);first|((with_reducible refine Side.id ?_);first|refine Side.mk True.intro ?_|refine Side.mk rfl ?_|refine Side.mk (fun h=>h) ?_|refine Side.mk hk ?_|(refine Side.mk ?_ ?_;focus (intro hside;rw [hside];done))|(refine Side.mk ?_ ?_;focus (((repeat' apply And.intro)<;>first|exact True.intro|assumption|rfl|omega|(simp;done)|(simp;omega)|(simp only [Bool.and_eq_true,Bool.or_eq_true,Bool.not_eq_true',decide_eq_true_eq,decide_eq_false_iff_not,beq_iff_eq,ne_eq,beq_eq_false_iff_ne,Bool.and_eq_false_iff,Bool.or_eq_false_iff] at *;omega)|(simp +contextual;done));done))|(refine Side.mk ?_ ?_;focus (intro hside;((repeat' apply And.intro)<;>first|exact True.intro|assumption|rfl|omega|(simp;done)|(simp;omega)|(simp only [Bool.and_eq_true,Bool.or_eq_true,Bool.not_eq_true',decide_eq_true_eq,decide_eq_false_iff_not,beq_iff_eq,ne_eq,beq_eq_false_iff_ne,Bool.and_eq_false_iff,Bool.or_eq_false_iff] at *;omega)|(simp +contextual;done));done)))|((with_reducible refine Look.id ?_);first|(refine Look.hit ?_;try (conv=>arg 7;whnf))|refine Look.miss (by omega) ?_)|((with_reducible refine QAsk.id ?_);first|(refine Pur.ask (hp _) ?_ ?_;focus (intro h;first|exact True.intro|exact h|exact rfl|exact ⟨h,rfl⟩|exact ⟨h,h,rfl⟩|exact hk|exact ⟨h,hk⟩|exact ⟨h,h,hk⟩|(simp +contextual at h ⊢;done);done)))|((with_reducible refine SemWp.id ?_);first|refine sem_seq ?_|refine sem_region rfl ?_|refine sem_cond rfl ?_|refine sem_block ?_|refine sem_exit ?_|refine sem_ret ?_|refine sem_skip ?_|refine sem_label ?_|refine sem_draw ?_))|fail
 ·rename_i h5
  simp only [Bool.and_eq_true,decide_eq_true_eq] at h5
  refine Fin.mk ⟨j+1,⟨by omega,by omega,?_⟩,by omega,Sub.cons rfl rfl (Sub.cons rfl rfl (Sub.cons rfl rfl (Sub.cons rfl rfl (Sub.nil _)))),Subp.of_eq ?_⟩
  ·rw [scan_yes (by omega) h5.2,h3]
  ·show [(a,Res.cells [.v (.int .i64 (IntKind.i64.wrap ((j:Int)+1)))] 3),(b,Res.cells [ss s] 9)]=_
   rw [wrap64 (by omega)];rfl
 ·rename_i h5
  have e:scan p s i=j:=by
   rw [←h3]
   by_cases hz:j < s.size
   ·exact scan_no (by simpa [hz] using h5)
   ·exact scan_end hz
  refine Fin.mk ⟨?_,?_⟩
  ·rw [e];rfl
  ·rw [e]
end Go.Proofs.Hk

set_option linter.unusedSimpArgs false
set_option linter.unusedVariables false
set_option maxRecDepth 4000
namespace Go.Proofs.Hk
open Go Go.Proofs
/-! What the tokens of a text are. -/
structure Tk where
 kind:Int
 text:ByteArray
 pos:Nat
def tokD (t:Tk):HV:=.agg [ii t.kind,ss t.text,ii t.pos]
inductive Nxt where
 |skip (j:Nat)
 |tok (t:Tk) (j:Nat)
 |err (e:Int)
def nxt (s:ByteArray) (i:Nat):Nxt:=
 if blankZ (byteAt s i)=true then .skip (i+1)
 else if byteAt s i=35 then .skip (scan (fun b=>b != 10) s i)
 else if letterZ (byteAt s i)=true then
  if (s.extract i (scan wordZ s i)).size > 16 then .err 2 else .tok ⟨if keyS (s.extract i (scan wordZ s i))=true then 3 else 1,s.extract i (scan wordZ s i),i⟩ (scan wordZ s i)
 else if digitZ (byteAt s i)=true then
  if numberS (s.extract i (scan digitZ s i)) (decide (scan digitZ s i < s.size) && wordZ (byteAt s (scan digitZ s i)))≠0 then .err (numberS (s.extract i (scan digitZ s i)) (decide (scan digitZ s i < s.size) && wordZ (byteAt s (scan digitZ s i))))
  else .tok ⟨2,s.extract i (scan digitZ s i),i⟩ (scan digitZ s i)
 else if signS (s.extract i s.size)=0 then .err 3
 else .tok ⟨4,s.extract i (i+signS (s.extract i s.size)),i⟩ (i+signS (s.extract i s.size))
/-- The tokens from a place on, or the error and its place. -/
def lexL (s:ByteArray) (i:Nat):Except (Int × Nat) (List Tk):=
 if h:i < s.size then
  match nxt s i with
  |.skip j=>lexL s (max (i+1) j)
  |.tok t j=>match lexL s (max (i+1) j) with
   |.ok l=>.ok (t::l)
   |.error e=>.error e
  |.err e=>.error (e,i)
 else .ok [⟨0,⟨#[]⟩,s.size⟩]
termination_by s.size - i
def comb (pre:List Tk):Except (Int × Nat) (List Tk)→Except (Int × Nat) (List Tk)
 |.ok l=>.ok (pre ++ l)
 |.error e=>.error e
def lexV (r:Except (Int × Nat) (List Tk)):HV:=
 match r with
 |.ok l=>.tup [.list .no 3 (l.map tokD),ii 0,ii 0]
 |.error (e,at_)=>.tup [.list .no 3 [],ii e,ii at_]
def lexR (s:ByteArray):Except (Int × Nat) (List Tk):=if s.size > 8192 then .error (2,8192) else lexL s 0
theorem lexL_end {s:ByteArray} {i:Nat} (h:¬ i < s.size):lexL s i = .ok [⟨0,⟨#[]⟩,s.size⟩]:=by
 unfold lexL
 rw [dif_neg h]
theorem lexL_skip {s:ByteArray} {i j:Nat} (h:i < s.size) (hj:i < j) (hn:nxt s i = .skip j):lexL s i=lexL s j:=by
 conv=>lhs;unfold lexL
 rw [dif_pos h,hn]
 simp only []
 rw [show max (i+1) j=j from by omega]
theorem lexL_tok {s:ByteArray} {i j:Nat} {t:Tk} (h:i < s.size) (hj:i < j) (hn:nxt s i = .tok t j) (pre:List Tk):comb (pre ++ [t]) (lexL s j)=comb pre (lexL s i):=by
 conv=>rhs;unfold lexL
 rw [dif_pos h,hn]
 simp only []
 rw [show max (i+1) j=j from by omega]
 cases lexL s j<;>simp [comb]
theorem lexL_err {s:ByteArray} {i:Nat} {e:Int} (h:i < s.size) (hn:nxt s i = .err e):lexL s i = .error (e,i):=by
 unfold lexL
 rw [dif_pos h,hn]
theorem nxt_blank {s:ByteArray} {j:Nat} (h:blankZ (byteAt s j)=true):nxt s j = .skip (j+1):=by simp [nxt,h]
theorem nxt_line {s:ByteArray} {j:Nat} (h0:blankZ (byteAt s j)=false) (h:byteAt s j=35):nxt s j = .skip (scan (fun b=>b != 10) s j):=by
 unfold nxt;rw [if_neg (by rw [h0];simp),if_pos h]
theorem nxt_longE {s:ByteArray} {j:Nat} (h0:blankZ (byteAt s j)=false) (h:¬ byteAt s j=35) (hl:letterZ (byteAt s j)=true) (hz:(s.extract j (scan wordZ s j)).size > 16):nxt s j = .err 2:=by
 unfold nxt;rw [if_neg (by rw [h0];simp),if_neg h,if_pos hl,if_pos hz]
theorem nxt_word {s:ByteArray} {j:Nat} (h0:blankZ (byteAt s j)=false) (h:¬ byteAt s j=35) (hl:letterZ (byteAt s j)=true) (hz:¬ (s.extract j (scan wordZ s j)).size > 16):nxt s j = .tok ⟨if keyS (s.extract j (scan wordZ s j))=true then 3 else 1,s.extract j (scan wordZ s j),j⟩ (scan wordZ s j):=by
 unfold nxt;rw [if_neg (by rw [h0];simp),if_neg h,if_pos hl,if_neg hz]
theorem nxt_numE {s:ByteArray} {j:Nat} (h0:blankZ (byteAt s j)=false) (h:¬ byteAt s j=35) (hl:letterZ (byteAt s j)=false) (hd:digitZ (byteAt s j)=true) {m:Bool} (hm:m=(decide (scan digitZ s j < s.size) && wordZ (byteAt s (scan digitZ s j)))) (hz:¬ numberS (s.extract j (scan digitZ s j)) m=0):nxt s j = .err (numberS (s.extract j (scan digitZ s j)) m):=by
 subst hm
 unfold nxt;rw [if_neg (by rw [h0];simp),if_neg h,if_neg (by rw [hl];simp),if_pos hd,if_pos hz]
theorem nxt_num {s:ByteArray} {j:Nat} (h0:blankZ (byteAt s j)=false) (h:¬ byteAt s j=35) (hl:letterZ (byteAt s j)=false) (hd:digitZ (byteAt s j)=true) {m:Bool} (hm:m=(decide (scan digitZ s j < s.size) && wordZ (byteAt s (scan digitZ s j)))) (hz:numberS (s.extract j (scan digitZ s j)) m=0):nxt s j = .tok ⟨2,s.extract j (scan digitZ s j),j⟩ (scan digitZ s j):=by
 subst hm
 unfold nxt;rw [if_neg (by rw [h0];simp),if_neg h,if_neg (by rw [hl];simp),if_pos hd,if_neg (by simp [hz])]
theorem nxt_signE {s:ByteArray} {j:Nat} (h0:blankZ (byteAt s j)=false) (h:¬ byteAt s j=35) (hl:letterZ (byteAt s j)=false) (hd:digitZ (byteAt s j)=false) (hz:signS (s.extract j s.size)=0):nxt s j = .err 3:=by
 unfold nxt;rw [if_neg (by rw [h0];simp),if_neg h,if_neg (by rw [hl];simp),if_neg (by rw [hd];simp),if_pos hz]
theorem nxt_sign {s:ByteArray} {j:Nat} (h0:blankZ (byteAt s j)=false) (h:¬ byteAt s j=35) (hl:letterZ (byteAt s j)=false) (hd:digitZ (byteAt s j)=false) (hz:¬ signS (s.extract j s.size)=0):nxt s j = .tok ⟨4,s.extract j (j+signS (s.extract j s.size)),j⟩ (j+signS (s.extract j s.size)):=by
 unfold nxt;rw [if_neg (by rw [h0];simp),if_neg h,if_neg (by rw [hl];simp),if_neg (by rw [hd];simp),if_neg hz]
theorem scan_lt {p:Int→Bool} {s:ByteArray} {i:Nat} (h:i < s.size) (hp:p (byteAt s i)=true):i < scan p s i:=by
 rw [←scan_yes h hp]
 have:=scan_ge p s (i+1);omega
theorem Subp.rot {x y z t t':Nat × Res} (ht:t'=t):Subp [t',x,y] [x,y,z,t]:=by
 subst ht
 exact ⟨[t',x,y,z],(List.perm_append_comm:([t'] ++ [x,y,z]).Perm ([x,y,z] ++ [t'])),List.sublist_append_left [t',x,y] [z]⟩
theorem signS_le (s:ByteArray) (h:0 < s.size):signS s≤s.size:=by
 unfold signS
 split
 ·rename_i h;omega
 ·split<;>omega
theorem sign_side {s:ByteArray} {j:Nat} (h:j < s.size) (hs:s.size≤8192):0≤(j:Int)∧0≤IntKind.i64.wrap ((j:Int)+signS (s.extract (j:Int).toNat s.size))∧(j:Int).toNat≤(IntKind.i64.wrap ((j:Int)+signS (s.extract (j:Int).toNat s.size))).toNat∧(IntKind.i64.wrap ((j:Int)+signS (s.extract (j:Int).toNat s.size))).toNat≤s.size:=by
 have:=signS_le (s.extract (j:Int).toNat s.size) (by simp;omega)
 simp at this
 simp only [Int.toNat_natCast]
 rw [wrap64 (by omega)]
 omega
theorem lex_err {s:ByteArray} {j:Nat} {e:Int} {pre:List Tk} (h:j < s.size) (hn:nxt s j = .err e) (h3:comb pre (lexL s j)=lexL s 0):∃ l e0 at_,HEnd.ret (HV.tup [HV.v (Value.slice none 0 0),HV.v (.int .i64 e),ii j]) = .ret (.tup [l,ii e0,ii at_])∧∃ l',Weaker l l'∧lexV (lexL s 0) = .tup [l',ii e0,ii at_]:=by
 refine ⟨_,_,_,rfl,_,Weaker.nil 3,?_⟩
 rw [←h3,lexL_err h hn];rfl
set_option maxHeartbeats 4000000 in
theorem Lex_spec (s:ByteArray):Pur cx 13 [ss s] (lexV (lexR s)):=by
 refine ⟨HCalls.weaken (sem_calls cx (fn:=Tryz.f13) rfl rfl rfl rfl (R:=fun e st=>∃ l e0 at_,e = .ret (.tup [l,ii e0,ii at_])∧∃ l',Weaker l l'∧lexV (lexR s) = .tup [l',ii e0,ii at_]) ?_) ?_⟩
 ·repeat' first|((with_reducible refine Ops.id ?_);first|(refine Ops.cons rfl ?_;(conv=>arg 7;whnf))|refine Ops.nil ?_)|((with_reducible refine Stp.id ?_);first|refine Stp.pure rfl ?_|refine Stp.val rfl ?_|refine Stp.valC rfl ?_|refine Stp.call ?_|refine Stp.callC ?_|refine Stp.look ?_|refine Stp.eff ?_|refine Stp.effC ?_|refine Stp.pan ?_|refine Stp.panC ?_)|((with_reducible refine PutK.id ?_);first|(refine PutK.set HsetIs.hit ?_)|(refine PutK.set (HsetIs.miss ?_ HsetIs.hit) ?_;(focus omega))|(refine PutK.set (HsetIs.miss ?_ (HsetIs.miss ?_ HsetIs.hit)) ?_;(focus omega);(focus omega))|(refine PutK.set (HsetIs.miss ?_ (HsetIs.miss ?_ (HsetIs.miss ?_ HsetIs.hit))) ?_;(focus omega);(focus omega);(focus omega))|(refine PutK.set (HsetIs.miss ?_ (HsetIs.miss ?_ (HsetIs.miss ?_ (HsetIs.miss ?_ HsetIs.hit)))) ?_;(focus omega);(focus omega);(focus omega);(focus omega))|(refine PutK.set (HsetIs.miss ?_ (HsetIs.miss ?_ (HsetIs.miss ?_ (HsetIs.miss ?_ (HsetIs.miss ?_ HsetIs.hit))))) ?_;(focus omega);(focus omega);(focus omega);(focus omega);(focus omega))|(refine PutK.set (HsetIs.miss ?_ (HsetIs.miss ?_ (HsetIs.miss ?_ (HsetIs.miss ?_ (HsetIs.miss ?_ (HsetIs.miss ?_ HsetIs.hit)))))) ?_;(focus omega);(focus omega);(focus omega);(focus omega);(focus omega);(focus omega))|refine PutK.mk' rfl ?_)|((with_reducible refine Upd.id ?_);(refine Upd.lit rfl ?_;(conv=>whnf)))|((with_reducible refine Grow2.id ?_);refine Grow2.own ?_)|((with_reducible refine Side.id ?_);first|refine Side.mk True.intro ?_|refine Side.mk rfl ?_|refine Side.mk (fun h=>h) ?_|(refine Side.mk ?_ ?_;focus (intro hside;rw [hside];done))|(refine Side.mk ?_ ?_;focus (((repeat' apply And.intro)<;>first|exact True.intro|assumption|rfl|omega|(simp;done)|(simp;omega)|(simp only [Bool.and_eq_true,Bool.or_eq_true,Bool.not_eq_true',decide_eq_true_eq,decide_eq_false_iff_not,beq_iff_eq,ne_eq,beq_eq_false_iff_ne,Bool.and_eq_false_iff,Bool.or_eq_false_iff] at *;omega)|(simp +contextual;done));done))|(refine Side.mk ?_ ?_;focus (intro hside;((repeat' apply And.intro)<;>first|exact True.intro|assumption|rfl|omega|(simp;done)|(simp;omega)|(simp only [Bool.and_eq_true,Bool.or_eq_true,Bool.not_eq_true',decide_eq_true_eq,decide_eq_false_iff_not,beq_iff_eq,ne_eq,beq_eq_false_iff_ne,Bool.and_eq_false_iff,Bool.or_eq_false_iff] at *;omega)|(simp +contextual;done));done)))|((with_reducible refine Br.id ?_);first|refine br_true rfl ?_|refine br_false rfl ?_|refine br_true (by with_reducible assumption) ?_|refine br_false (by with_reducible assumption) ?_|refine br_dec_t (by with_reducible assumption) ?_|refine br_dec_f (by with_reducible assumption) ?_|refine br_beq_t (by with_reducible assumption) ?_|refine br_beq_f (by with_reducible assumption) ?_|refine br_bne_t (by with_reducible assumption) ?_|refine br_bne_f (by with_reducible assumption) ?_|refine br_dec (fun _=>?_) (fun _=>?_)|refine br_beq (fun _=>?_) (fun _=>?_)|refine br_bne (fun _=>?_) (fun _=>?_)|refine br_split (fun _=>?_) (fun _=>?_))|((with_reducible refine Look.id ?_);first|(refine Look.hit ?_;try (conv=>arg 7;whnf))|refine Look.miss (by omega) ?_)|((with_reducible refine SemWp.id ?_);first|refine sem_seq ?_|refine sem_region rfl ?_|refine sem_cond rfl ?_|refine sem_block ?_|refine sem_exit ?_|refine sem_ret ?_|refine sem_skip ?_|refine sem_label ?_|refine sem_draw ?_)|((with_reducible refine CallC.id ?_);first|refine CallC.two ?_)|((with_reducible refine qThen.id ?_);first|refine qThen.go ?_|refine qThen.ret ?_|refine qThen.exit ?_|refine qThen.pan ?_)|((with_reducible refine hinBlock.id ?_);first|refine hinBlock.go ?_|refine hinBlock.ret ?_|refine hinBlock.pan ?_|refine hinBlock.here rfl ?_|refine hinBlock.on rfl ?_)|((with_reducible refine hround.id ?_);first|refine hround.go ?_|refine hround.ret ?_|refine hround.exit ?_|refine hround.pan ?_)|((with_reducible refine bodyQ.id ?_);first|refine bodyQ.ret rfl ?_|refine bodyQ.ret2 rfl ?_|refine bodyQ.ret0 rfl ?_|refine bodyQ.go ?_|refine bodyQ.pan ?_)|(refine drawQ cx (by decide +kernel) ?_;(conv=>whnf))|((conv=>whnf);first|((with_reducible refine Side.id ?_);first|refine Side.mk True.intro ?_|refine Side.mk rfl ?_|refine Side.mk (fun h=>h) ?_|(refine Side.mk ?_ ?_;focus (intro hside;rw [hside];done))|(refine Side.mk ?_ ?_;focus (((repeat' apply And.intro)<;>first|exact True.intro|assumption|rfl|omega|(simp;done)|(simp;omega)|(simp only [Bool.and_eq_true,Bool.or_eq_true,Bool.not_eq_true',decide_eq_true_eq,decide_eq_false_iff_not,beq_iff_eq,ne_eq,beq_eq_false_iff_ne,Bool.and_eq_false_iff,Bool.or_eq_false_iff] at *;omega)|(simp +contextual;done));done))|(refine Side.mk ?_ ?_;focus (intro hside;((repeat' apply And.intro)<;>first|exact True.intro|assumption|rfl|omega|(simp;done)|(simp;omega)|(simp only [Bool.and_eq_true,Bool.or_eq_true,Bool.not_eq_true',decide_eq_true_eq,decide_eq_false_iff_not,beq_iff_eq,ne_eq,beq_eq_false_iff_ne,Bool.and_eq_false_iff,Bool.or_eq_false_iff] at *;omega)|(simp +contextual;done));done)))|((with_reducible refine Look.id ?_);first|(refine Look.hit ?_;try (conv=>arg 7;whnf))|refine Look.miss (by omega) ?_)|((with_reducible refine SemWp.id ?_);first|refine sem_seq ?_|refine sem_region rfl ?_|refine sem_cond rfl ?_|refine sem_block ?_|refine sem_exit ?_|refine sem_ret ?_|refine sem_skip ?_|refine sem_label ?_|refine sem_draw ?_))|fail
  intro b _
  repeat' first|((with_reducible refine Ops.id ?_);first|(refine Ops.cons rfl ?_;(conv=>arg 7;whnf))|refine Ops.nil ?_)|((with_reducible refine Stp.id ?_);first|refine Stp.pure rfl ?_|refine Stp.val rfl ?_|refine Stp.valC rfl ?_|refine Stp.call ?_|refine Stp.callC ?_|refine Stp.look ?_|refine Stp.eff ?_|refine Stp.effC ?_|refine Stp.pan ?_|refine Stp.panC ?_)|((with_reducible refine PutK.id ?_);first|(refine PutK.set HsetIs.hit ?_)|(refine PutK.set (HsetIs.miss ?_ HsetIs.hit) ?_;(focus omega))|(refine PutK.set (HsetIs.miss ?_ (HsetIs.miss ?_ HsetIs.hit)) ?_;(focus omega);(focus omega))|(refine PutK.set (HsetIs.miss ?_ (HsetIs.miss ?_ (HsetIs.miss ?_ HsetIs.hit))) ?_;(focus omega);(focus omega);(focus omega))|(refine PutK.set (HsetIs.miss ?_ (HsetIs.miss ?_ (HsetIs.miss ?_ (HsetIs.miss ?_ HsetIs.hit)))) ?_;(focus omega);(focus omega);(focus omega);(focus omega))|(refine PutK.set (HsetIs.miss ?_ (HsetIs.miss ?_ (HsetIs.miss ?_ (HsetIs.miss ?_ (HsetIs.miss ?_ HsetIs.hit))))) ?_;(focus omega);(focus omega);(focus omega);(focus omega);(focus omega))|(refine PutK.set (HsetIs.miss ?_ (HsetIs.miss ?_ (HsetIs.miss ?_ (HsetIs.miss ?_ (HsetIs.miss ?_ (HsetIs.miss ?_ HsetIs.hit)))))) ?_;(focus omega);(focus omega);(focus omega);(focus omega);(focus omega);(focus omega))|refine PutK.mk' rfl ?_)|((with_reducible refine Upd.id ?_);(refine Upd.lit rfl ?_;(conv=>whnf)))|((with_reducible refine Grow2.id ?_);refine Grow2.own ?_)|((with_reducible refine Side.id ?_);first|refine Side.mk True.intro ?_|refine Side.mk rfl ?_|refine Side.mk (fun h=>h) ?_|(refine Side.mk ?_ ?_;focus (intro hside;rw [hside];done))|(refine Side.mk ?_ ?_;focus (((repeat' apply And.intro)<;>first|exact True.intro|assumption|rfl|omega|(simp;done)|(simp;omega)|(simp only [Bool.and_eq_true,Bool.or_eq_true,Bool.not_eq_true',decide_eq_true_eq,decide_eq_false_iff_not,beq_iff_eq,ne_eq,beq_eq_false_iff_ne,Bool.and_eq_false_iff,Bool.or_eq_false_iff] at *;omega)|(simp +contextual;done));done))|(refine Side.mk ?_ ?_;focus (intro hside;((repeat' apply And.intro)<;>first|exact True.intro|assumption|rfl|omega|(simp;done)|(simp;omega)|(simp only [Bool.and_eq_true,Bool.or_eq_true,Bool.not_eq_true',decide_eq_true_eq,decide_eq_false_iff_not,beq_iff_eq,ne_eq,beq_eq_false_iff_ne,Bool.and_eq_false_iff,Bool.or_eq_false_iff] at *;omega)|(simp +contextual;done));done)))|((with_reducible refine Br.id ?_);first|refine br_true rfl ?_|refine br_false rfl ?_|refine br_true (by with_reducible assumption) ?_|refine br_false (by with_reducible assumption) ?_|refine br_dec_t (by with_reducible assumption) ?_|refine br_dec_f (by with_reducible assumption) ?_|refine br_beq_t (by with_reducible assumption) ?_|refine br_beq_f (by with_reducible assumption) ?_|refine br_bne_t (by with_reducible assumption) ?_|refine br_bne_f (by with_reducible assumption) ?_|refine br_dec (fun _=>?_) (fun _=>?_)|refine br_beq (fun _=>?_) (fun _=>?_)|refine br_bne (fun _=>?_) (fun _=>?_)|refine br_split (fun _=>?_) (fun _=>?_))|((with_reducible refine Look.id ?_);first|(refine Look.hit ?_;try (conv=>arg 7;whnf))|refine Look.miss (by omega) ?_)|((with_reducible refine SemWp.id ?_);first|refine sem_seq ?_|refine sem_region rfl ?_|refine sem_cond rfl ?_|refine sem_block ?_|refine sem_exit ?_|refine sem_ret ?_|refine sem_skip ?_|refine sem_label ?_|refine sem_draw ?_)|((with_reducible refine CallC.id ?_);first|refine CallC.two ?_)|((with_reducible refine qThen.id ?_);first|refine qThen.go ?_|refine qThen.ret ?_|refine qThen.exit ?_|refine qThen.pan ?_)|((with_reducible refine hinBlock.id ?_);first|refine hinBlock.go ?_|refine hinBlock.ret ?_|refine hinBlock.pan ?_|refine hinBlock.here rfl ?_|refine hinBlock.on rfl ?_)|((with_reducible refine hround.id ?_);first|refine hround.go ?_|refine hround.ret ?_|refine hround.exit ?_|refine hround.pan ?_)|((with_reducible refine bodyQ.id ?_);first|refine bodyQ.ret rfl ?_|refine bodyQ.ret2 rfl ?_|refine bodyQ.ret0 rfl ?_|refine bodyQ.go ?_|refine bodyQ.pan ?_)|(refine drawQ cx (by decide +kernel) ?_;(conv=>whnf))|((conv=>whnf);first|((with_reducible refine Side.id ?_);first|refine Side.mk True.intro ?_|refine Side.mk rfl ?_|refine Side.mk (fun h=>h) ?_|(refine Side.mk ?_ ?_;focus (intro hside;rw [hside];done))|(refine Side.mk ?_ ?_;focus (((repeat' apply And.intro)<;>first|exact True.intro|assumption|rfl|omega|(simp;done)|(simp;omega)|(simp only [Bool.and_eq_true,Bool.or_eq_true,Bool.not_eq_true',decide_eq_true_eq,decide_eq_false_iff_not,beq_iff_eq,ne_eq,beq_eq_false_iff_ne,Bool.and_eq_false_iff,Bool.or_eq_false_iff] at *;omega)|(simp +contextual;done));done))|(refine Side.mk ?_ ?_;focus (intro hside;((repeat' apply And.intro)<;>first|exact True.intro|assumption|rfl|omega|(simp;done)|(simp;omega)|(simp only [Bool.and_eq_true,Bool.or_eq_true,Bool.not_eq_true',decide_eq_true_eq,decide_eq_false_iff_not,beq_iff_eq,ne_eq,beq_eq_false_iff_ne,Bool.and_eq_false_iff,Bool.or_eq_false_iff] at *;omega)|(simp +contextual;done));done)))|((with_reducible refine Look.id ?_);first|(refine Look.hit ?_;try (conv=>arg 7;whnf))|refine Look.miss (by omega) ?_)|((with_reducible refine SemWp.id ?_);first|refine sem_seq ?_|refine sem_region rfl ?_|refine sem_cond rfl ?_|refine sem_block ?_|refine sem_exit ?_|refine sem_ret ?_|refine sem_skip ?_|refine sem_label ?_|refine sem_draw ?_))|fail
  ·rename_i h
   refine Fin.mk ⟨_,_,_,rfl,_,Weaker.nil 3,?_⟩
   have h:s.size > 8192:=by omega
   unfold lexR
   rw [if_pos h];rfl
  ·rename_i h
   intro a hab
   simp only [keys,List.map_cons,List.map_nil,List.mem_cons,List.not_mem_nil,not_or,or_false,not_false_eq_true] at hab
   repeat' first|((with_reducible refine Ops.id ?_);first|(refine Ops.cons rfl ?_;(conv=>arg 7;whnf))|refine Ops.nil ?_)|((with_reducible refine Stp.id ?_);first|refine Stp.pure rfl ?_|refine Stp.val rfl ?_|refine Stp.valC rfl ?_|refine Stp.call ?_|refine Stp.callC ?_|refine Stp.look ?_|refine Stp.eff ?_|refine Stp.effC ?_|refine Stp.pan ?_|refine Stp.panC ?_)|((with_reducible refine PutK.id ?_);first|(refine PutK.set HsetIs.hit ?_)|(refine PutK.set (HsetIs.miss ?_ HsetIs.hit) ?_;(focus omega))|(refine PutK.set (HsetIs.miss ?_ (HsetIs.miss ?_ HsetIs.hit)) ?_;(focus omega);(focus omega))|(refine PutK.set (HsetIs.miss ?_ (HsetIs.miss ?_ (HsetIs.miss ?_ HsetIs.hit))) ?_;(focus omega);(focus omega);(focus omega))|(refine PutK.set (HsetIs.miss ?_ (HsetIs.miss ?_ (HsetIs.miss ?_ (HsetIs.miss ?_ HsetIs.hit)))) ?_;(focus omega);(focus omega);(focus omega);(focus omega))|(refine PutK.set (HsetIs.miss ?_ (HsetIs.miss ?_ (HsetIs.miss ?_ (HsetIs.miss ?_ (HsetIs.miss ?_ HsetIs.hit))))) ?_;(focus omega);(focus omega);(focus omega);(focus omega);(focus omega))|(refine PutK.set (HsetIs.miss ?_ (HsetIs.miss ?_ (HsetIs.miss ?_ (HsetIs.miss ?_ (HsetIs.miss ?_ (HsetIs.miss ?_ HsetIs.hit)))))) ?_;(focus omega);(focus omega);(focus omega);(focus omega);(focus omega);(focus omega))|refine PutK.mk' rfl ?_)|((with_reducible refine Upd.id ?_);(refine Upd.lit rfl ?_;(conv=>whnf)))|((with_reducible refine Grow2.id ?_);refine Grow2.own ?_)|((with_reducible refine Side.id ?_);first|refine Side.mk True.intro ?_|refine Side.mk rfl ?_|refine Side.mk (fun h=>h) ?_|(refine Side.mk ?_ ?_;focus (intro hside;rw [hside];done))|(refine Side.mk ?_ ?_;focus (((repeat' apply And.intro)<;>first|exact True.intro|assumption|rfl|omega|(simp;done)|(simp;omega)|(simp only [Bool.and_eq_true,Bool.or_eq_true,Bool.not_eq_true',decide_eq_true_eq,decide_eq_false_iff_not,beq_iff_eq,ne_eq,beq_eq_false_iff_ne,Bool.and_eq_false_iff,Bool.or_eq_false_iff] at *;omega)|(simp +contextual;done));done))|(refine Side.mk ?_ ?_;focus (intro hside;((repeat' apply And.intro)<;>first|exact True.intro|assumption|rfl|omega|(simp;done)|(simp;omega)|(simp only [Bool.and_eq_true,Bool.or_eq_true,Bool.not_eq_true',decide_eq_true_eq,decide_eq_false_iff_not,beq_iff_eq,ne_eq,beq_eq_false_iff_ne,Bool.and_eq_false_iff,Bool.or_eq_false_iff] at *;omega)|(simp +contextual;done));done)))|((with_reducible refine Br.id ?_);first|refine br_true rfl ?_|refine br_false rfl ?_|refine br_true (by with_reducible assumption) ?_|refine br_false (by with_reducible assumption) ?_|refine br_dec_t (by with_reducible assumption) ?_|refine br_dec_f (by with_reducible assumption) ?_|refine br_beq_t (by with_reducible assumption) ?_|refine br_beq_f (by with_reducible assumption) ?_|refine br_bne_t (by with_reducible assumption) ?_|refine br_bne_f (by with_reducible assumption) ?_|refine br_dec (fun _=>?_) (fun _=>?_)|refine br_beq (fun _=>?_) (fun _=>?_)|refine br_bne (fun _=>?_) (fun _=>?_)|refine br_split (fun _=>?_) (fun _=>?_))|((with_reducible refine Look.id ?_);first|(refine Look.hit ?_;try (conv=>arg 7;whnf))|refine Look.miss (by omega) ?_)|((with_reducible refine SemWp.id ?_);first|refine sem_seq ?_|refine sem_region rfl ?_|refine sem_cond rfl ?_|refine sem_block ?_|refine sem_exit ?_|refine sem_ret ?_|refine sem_skip ?_|refine sem_label ?_|refine sem_draw ?_)|((with_reducible refine CallC.id ?_);first|refine CallC.two ?_)|((with_reducible refine qThen.id ?_);first|refine qThen.go ?_|refine qThen.ret ?_|refine qThen.exit ?_|refine qThen.pan ?_)|((with_reducible refine hinBlock.id ?_);first|refine hinBlock.go ?_|refine hinBlock.ret ?_|refine hinBlock.pan ?_|refine hinBlock.here rfl ?_|refine hinBlock.on rfl ?_)|((with_reducible refine hround.id ?_);first|refine hround.go ?_|refine hround.ret ?_|refine hround.exit ?_|refine hround.pan ?_)|((with_reducible refine bodyQ.id ?_);first|refine bodyQ.ret rfl ?_|refine bodyQ.ret2 rfl ?_|refine bodyQ.ret0 rfl ?_|refine bodyQ.go ?_|refine bodyQ.pan ?_)|(refine drawQ cx (by decide +kernel) ?_;(conv=>whnf))|((conv=>whnf);first|((with_reducible refine Side.id ?_);first|refine Side.mk True.intro ?_|refine Side.mk rfl ?_|refine Side.mk (fun h=>h) ?_|(refine Side.mk ?_ ?_;focus (intro hside;rw [hside];done))|(refine Side.mk ?_ ?_;focus (((repeat' apply And.intro)<;>first|exact True.intro|assumption|rfl|omega|(simp;done)|(simp;omega)|(simp only [Bool.and_eq_true,Bool.or_eq_true,Bool.not_eq_true',decide_eq_true_eq,decide_eq_false_iff_not,beq_iff_eq,ne_eq,beq_eq_false_iff_ne,Bool.and_eq_false_iff,Bool.or_eq_false_iff] at *;omega)|(simp +contextual;done));done))|(refine Side.mk ?_ ?_;focus (intro hside;((repeat' apply And.intro)<;>first|exact True.intro|assumption|rfl|omega|(simp;done)|(simp;omega)|(simp only [Bool.and_eq_true,Bool.or_eq_true,Bool.not_eq_true',decide_eq_true_eq,decide_eq_false_iff_not,beq_iff_eq,ne_eq,beq_eq_false_iff_ne,Bool.and_eq_false_iff,Bool.or_eq_false_iff] at *;omega)|(simp +contextual;done));done)))|((with_reducible refine Look.id ?_);first|(refine Look.hit ?_;try (conv=>arg 7;whnf))|refine Look.miss (by omega) ?_)|((with_reducible refine SemWp.id ?_);first|refine sem_seq ?_|refine sem_region rfl ?_|refine sem_cond rfl ?_|refine sem_block ?_|refine sem_exit ?_|refine sem_ret ?_|refine sem_skip ?_|refine sem_label ?_|refine sem_draw ?_))|fail
   have hs:s.size≤8192:=by omega
   have hR:lexR s=lexL s 0:=by unfold lexR;rw [if_neg (by omega)]
   rw [hR]
   refine sem_nil_own cx 5 3 rfl ?_
   intro r hr
   simp only [keys,List.map_cons,List.map_nil,List.mem_cons,List.not_mem_nil,not_or,or_false,not_false_eq_true] at hr
   refine sem_loop cx (ι:=Nat × List Tk) (fun i=>i.1≤s.size∧i.2.length≤i.1∧comb i.2 (lexL s i.1)=lexL s 0)
    (fun i=>[(1,.sure,.ptr b 0),(6,.sure,.ptr a 0),(7,.sure,.fn (.func 32) [] [.ptr a 0,.ptr b 0]),(8,.sure,.fn (.func 33) [] []),(5,.sure,.list (.own r 0) 3 (i.2.map tokD))])
    (fun i=>[(r,.tok i.2.length),(a,.cells [ii i.1] 3),(b,.cells [ss s] 9)]) (fun i=>s.size - i.1) (0,[]) ⟨Nat.zero_le _,Nat.le_refl _,?_⟩ ?_ ?_ ?_
   ·cases lexL s 0<;>rfl
   ·exact Sub.cons rfl rfl (Sub.cons rfl rfl (Sub.cons rfl rfl (Sub.cons rfl rfl (Sub.cons rfl rfl (Sub.nil _)))))
   ·exact Subp.refl _
   rintro ⟨j,pre⟩ ⟨h1,h2,h3⟩
   simp only [] at h1 h2 h3
   dsimp only
   repeat' first|((with_reducible refine Ops.id ?_);first|(refine Ops.cons rfl ?_;(conv=>arg 7;whnf))|refine Ops.nil ?_)|((with_reducible refine Stp.id ?_);first|refine Stp.pure rfl ?_|refine Stp.val rfl ?_|refine Stp.valC rfl ?_|refine Stp.call ?_|refine Stp.callC ?_|refine Stp.look ?_|refine Stp.eff ?_|refine Stp.effC ?_|refine Stp.pan ?_|refine Stp.panC ?_)|((with_reducible refine PutK.id ?_);first|(refine PutK.set HsetIs.hit ?_)|(refine PutK.set (HsetIs.miss ?_ HsetIs.hit) ?_;(focus omega))|(refine PutK.set (HsetIs.miss ?_ (HsetIs.miss ?_ HsetIs.hit)) ?_;(focus omega);(focus omega))|(refine PutK.set (HsetIs.miss ?_ (HsetIs.miss ?_ (HsetIs.miss ?_ HsetIs.hit))) ?_;(focus omega);(focus omega);(focus omega))|(refine PutK.set (HsetIs.miss ?_ (HsetIs.miss ?_ (HsetIs.miss ?_ (HsetIs.miss ?_ HsetIs.hit)))) ?_;(focus omega);(focus omega);(focus omega);(focus omega))|(refine PutK.set (HsetIs.miss ?_ (HsetIs.miss ?_ (HsetIs.miss ?_ (HsetIs.miss ?_ (HsetIs.miss ?_ HsetIs.hit))))) ?_;(focus omega);(focus omega);(focus omega);(focus omega);(focus omega))|(refine PutK.set (HsetIs.miss ?_ (HsetIs.miss ?_ (HsetIs.miss ?_ (HsetIs.miss ?_ (HsetIs.miss ?_ (HsetIs.miss ?_ HsetIs.hit)))))) ?_;(focus omega);(focus omega);(focus omega);(focus omega);(focus omega);(focus omega))|refine PutK.mk' rfl ?_)|((with_reducible refine Upd.id ?_);(refine Upd.lit rfl ?_;(conv=>whnf)))|((with_reducible refine Grow2.id ?_);refine Grow2.own ?_)|((with_reducible refine Side.id ?_);first|refine Side.mk True.intro ?_|refine Side.mk rfl ?_|refine Side.mk (fun h=>h) ?_|(refine Side.mk ?_ ?_;focus (intro hside;rw [hside];done))|(refine Side.mk ?_ ?_;focus (((repeat' apply And.intro)<;>first|exact True.intro|assumption|rfl|omega|(simp;done)|(simp;omega)|(simp only [Bool.and_eq_true,Bool.or_eq_true,Bool.not_eq_true',decide_eq_true_eq,decide_eq_false_iff_not,beq_iff_eq,ne_eq,beq_eq_false_iff_ne,Bool.and_eq_false_iff,Bool.or_eq_false_iff] at *;omega)|(simp +contextual;done));done))|(refine Side.mk ?_ ?_;focus (intro hside;((repeat' apply And.intro)<;>first|exact True.intro|assumption|rfl|omega|(simp;done)|(simp;omega)|(simp only [Bool.and_eq_true,Bool.or_eq_true,Bool.not_eq_true',decide_eq_true_eq,decide_eq_false_iff_not,beq_iff_eq,ne_eq,beq_eq_false_iff_ne,Bool.and_eq_false_iff,Bool.or_eq_false_iff] at *;omega)|(simp +contextual;done));done)))|((with_reducible refine Br.id ?_);first|refine br_true rfl ?_|refine br_false rfl ?_|refine br_true (by with_reducible assumption) ?_|refine br_false (by with_reducible assumption) ?_|refine br_dec_t (by with_reducible assumption) ?_|refine br_dec_f (by with_reducible assumption) ?_|refine br_beq_t (by with_reducible assumption) ?_|refine br_beq_f (by with_reducible assumption) ?_|refine br_bne_t (by with_reducible assumption) ?_|refine br_bne_f (by with_reducible assumption) ?_|refine br_dec (fun _=>?_) (fun _=>?_)|refine br_beq (fun _=>?_) (fun _=>?_)|refine br_bne (fun _=>?_) (fun _=>?_)|refine br_split (fun _=>?_) (fun _=>?_))|((with_reducible refine Look.id ?_);first|(refine Look.hit ?_;try (conv=>arg 7;whnf))|refine Look.miss (by omega) ?_)|((with_reducible refine SemWp.id ?_);first|refine sem_seq ?_|refine sem_region rfl ?_|refine sem_cond rfl ?_|refine sem_block ?_|refine sem_exit ?_|refine sem_ret ?_|refine sem_skip ?_|refine sem_label ?_|refine sem_draw ?_)|((with_reducible refine CallWp.id ?_);first|refine Pur.call (sort_spec _) ?_)|((with_reducible refine QAsk.id ?_);first|(refine Pur.ask (sort_spec _) ?_ ?_;focus (intro h;first|exact True.intro|exact h|exact rfl|exact ⟨h,rfl⟩|exact ⟨h,h,rfl⟩|exact hk|exact ⟨h,hk⟩|exact ⟨h,h,hk⟩|(simp +contextual at h ⊢;done);done)))|((with_reducible refine CallC.id ?_);first|(refine Pur.askC (sort_spec _) ?_ ?_;focus (intro h;first|exact True.intro|exact h|exact rfl|exact ⟨h,rfl⟩|exact ⟨h,h,rfl⟩|exact hk|exact ⟨h,hk⟩|exact ⟨h,h,hk⟩|(simp +contextual at h ⊢;done);done))|refine CallC.two ?_)|((with_reducible refine qThen.id ?_);first|refine qThen.go ?_|refine qThen.ret ?_|refine qThen.exit ?_|refine qThen.pan ?_)|((with_reducible refine hinBlock.id ?_);first|refine hinBlock.go ?_|refine hinBlock.ret ?_|refine hinBlock.pan ?_|refine hinBlock.here rfl ?_|refine hinBlock.on rfl ?_)|((with_reducible refine hround.id ?_);first|refine hround.go ?_|refine hround.ret ?_|refine hround.exit ?_|refine hround.pan ?_)|((with_reducible refine bodyQ.id ?_);first|refine bodyQ.ret rfl ?_|refine bodyQ.ret2 rfl ?_|refine bodyQ.ret0 rfl ?_|refine bodyQ.go ?_|refine bodyQ.pan ?_)|(refine drawQ cx (by decide +kernel) ?_;(conv=>whnf))|((conv=>whnf);first|((with_reducible refine Side.id ?_);first|refine Side.mk True.intro ?_|refine Side.mk rfl ?_|refine Side.mk (fun h=>h) ?_|(refine Side.mk ?_ ?_;focus (intro hside;rw [hside];done))|(refine Side.mk ?_ ?_;focus (((repeat' apply And.intro)<;>first|exact True.intro|assumption|rfl|omega|(simp;done)|(simp;omega)|(simp only [Bool.and_eq_true,Bool.or_eq_true,Bool.not_eq_true',decide_eq_true_eq,decide_eq_false_iff_not,beq_iff_eq,ne_eq,beq_eq_false_iff_ne,Bool.and_eq_false_iff,Bool.or_eq_false_iff] at *;omega)|(simp +contextual;done));done))|(refine Side.mk ?_ ?_;focus (intro hside;((repeat' apply And.intro)<;>first|exact True.intro|assumption|rfl|omega|(simp;done)|(simp;omega)|(simp only [Bool.and_eq_true,Bool.or_eq_true,Bool.not_eq_true',decide_eq_true_eq,decide_eq_false_iff_not,beq_iff_eq,ne_eq,beq_eq_false_iff_ne,Bool.and_eq_false_iff,Bool.or_eq_false_iff] at *;omega)|(simp +contextual;done));done)))|((with_reducible refine Look.id ?_);first|(refine Look.hit ?_;try (conv=>arg 7;whnf))|refine Look.miss (by omega) ?_)|((with_reducible refine QAsk.id ?_);first|(refine Pur.ask (sort_spec _) ?_ ?_;focus (intro h;first|exact True.intro|exact h|exact rfl|exact ⟨h,rfl⟩|exact ⟨h,h,rfl⟩|exact hk|exact ⟨h,hk⟩|exact ⟨h,h,hk⟩|(simp +contextual at h ⊢;done);done)))|((with_reducible refine SemWp.id ?_);first|refine sem_seq ?_|refine sem_region rfl ?_|refine sem_cond rfl ?_|refine sem_block ?_|refine sem_exit ?_|refine sem_ret ?_|refine sem_skip ?_|refine sem_label ?_|refine sem_draw ?_))|fail
   intro tt htt
   simp only [keys,List.map_cons,List.map_nil,List.mem_cons,List.not_mem_nil,not_or,or_false,not_false_eq_true] at htt
   repeat' first|((with_reducible refine Ops.id ?_);first|(refine Ops.cons rfl ?_;(conv=>arg 7;whnf))|refine Ops.nil ?_)|((with_reducible refine Stp.id ?_);first|refine Stp.pure rfl ?_|refine Stp.val rfl ?_|refine Stp.valC rfl ?_|refine Stp.call ?_|refine Stp.callC ?_|refine Stp.look ?_|refine Stp.eff ?_|refine Stp.effC ?_|refine Stp.pan ?_|refine Stp.panC ?_)|((with_reducible refine PutK.id ?_);first|(refine PutK.set HsetIs.hit ?_)|(refine PutK.set (HsetIs.miss ?_ HsetIs.hit) ?_;(focus omega))|(refine PutK.set (HsetIs.miss ?_ (HsetIs.miss ?_ HsetIs.hit)) ?_;(focus omega);(focus omega))|(refine PutK.set (HsetIs.miss ?_ (HsetIs.miss ?_ (HsetIs.miss ?_ HsetIs.hit))) ?_;(focus omega);(focus omega);(focus omega))|(refine PutK.set (HsetIs.miss ?_ (HsetIs.miss ?_ (HsetIs.miss ?_ (HsetIs.miss ?_ HsetIs.hit)))) ?_;(focus omega);(focus omega);(focus omega);(focus omega))|(refine PutK.set (HsetIs.miss ?_ (HsetIs.miss ?_ (HsetIs.miss ?_ (HsetIs.miss ?_ (HsetIs.miss ?_ HsetIs.hit))))) ?_;(focus omega);(focus omega);(focus omega);(focus omega);(focus omega))|(refine PutK.set (HsetIs.miss ?_ (HsetIs.miss ?_ (HsetIs.miss ?_ (HsetIs.miss ?_ (HsetIs.miss ?_ (HsetIs.miss ?_ HsetIs.hit)))))) ?_;(focus omega);(focus omega);(focus omega);(focus omega);(focus omega);(focus omega))|refine PutK.mk' rfl ?_)|((with_reducible refine Upd.id ?_);(refine Upd.lit rfl ?_;(conv=>whnf)))|((with_reducible refine Grow2.id ?_);refine Grow2.own ?_)|((with_reducible refine Side.id ?_);first|refine Side.mk True.intro ?_|refine Side.mk rfl ?_|refine Side.mk (fun h=>h) ?_|refine Side.mk (sign_side (by omega) hs) ?_|(refine Side.mk ?_ ?_;focus (intro hside;rw [hside];done))|(refine Side.mk ?_ ?_;focus (((repeat' apply And.intro)<;>first|exact True.intro|assumption|rfl|omega|(simp;done)|(simp;omega)|(simp only [Bool.and_eq_true,Bool.or_eq_true,Bool.not_eq_true',decide_eq_true_eq,decide_eq_false_iff_not,beq_iff_eq,ne_eq,beq_eq_false_iff_ne,Bool.and_eq_false_iff,Bool.or_eq_false_iff] at *;omega)|(simp +contextual;done));done))|(refine Side.mk ?_ ?_;focus (intro hside;((repeat' apply And.intro)<;>first|exact True.intro|assumption|rfl|omega|(simp;done)|(simp;omega)|(simp only [Bool.and_eq_true,Bool.or_eq_true,Bool.not_eq_true',decide_eq_true_eq,decide_eq_false_iff_not,beq_iff_eq,ne_eq,beq_eq_false_iff_ne,Bool.and_eq_false_iff,Bool.or_eq_false_iff] at *;omega)|(simp +contextual;done));done)))|((with_reducible refine Br.id ?_);first|refine br_true rfl ?_|refine br_false rfl ?_|refine br_true (by with_reducible assumption) ?_|refine br_false (by with_reducible assumption) ?_|refine br_dec_t (by with_reducible assumption) ?_|refine br_dec_f (by with_reducible assumption) ?_|refine br_beq_t (by with_reducible assumption) ?_|refine br_beq_f (by with_reducible assumption) ?_|refine br_bne_t (by with_reducible assumption) ?_|refine br_bne_f (by with_reducible assumption) ?_|refine br_dec (fun _=>?_) (fun _=>?_)|refine br_beq (fun _=>?_) (fun _=>?_)|refine br_bne (fun _=>?_) (fun _=>?_)|refine br_split (fun _=>?_) (fun _=>?_))|((with_reducible refine Look.id ?_);first|(refine Look.hit ?_;try (conv=>arg 7;whnf))|refine Look.miss (by omega) ?_)|((with_reducible refine SemWp.id ?_);first|refine sem_seq ?_|refine sem_region rfl ?_|refine sem_cond rfl ?_|refine sem_block ?_|refine sem_exit ?_|refine sem_ret ?_|refine sem_skip ?_|refine sem_label ?_|refine sem_draw ?_)|((with_reducible refine CallWp.id ?_);first|refine Pur.call (sort_spec _) ?_|(refine call_ret cx [_,_] (run_spec wordZ _ rfl word_spec _ _ _ hs _ (by omega) hab) (List.Perm.refl _) ?_;(conv=>whnf))|(refine call_ret cx [_,_] (run_spec digitZ _ rfl digit_spec _ _ _ hs _ (by omega) hab) (List.Perm.refl _) ?_;(conv=>whnf))|(refine call_ret cx [_,_] (run_spec (fun b=>b != 10) _ rfl line_spec _ _ _ hs _ (by omega) hab) (List.Perm.refl _) ?_;(conv=>whnf))|refine Pur.call (key_spec _) ?_|refine Pur.call (sign_spec _ (by simp;omega)) ?_|refine Pur.call (number_spec _ _) ?_|refine Pur.call (word_spec _) ?_)|((with_reducible refine QAsk.id ?_);first|(refine Pur.ask (sort_spec _) ?_ ?_;focus (intro h;first|exact True.intro|exact h|exact rfl|exact ⟨h,rfl⟩|exact ⟨h,h,rfl⟩|exact hk|exact ⟨h,hk⟩|exact ⟨h,h,hk⟩|(simp +contextual at h ⊢;done);done))|(refine Pur.ask (key_spec _) ?_ ?_;focus (intro h;first|exact True.intro|exact h|exact rfl|exact ⟨h,rfl⟩|exact ⟨h,h,rfl⟩|exact hk|exact ⟨h,hk⟩|exact ⟨h,h,hk⟩|(simp +contextual at h ⊢;done);done))|(refine Pur.ask (sign_spec _ (by simp;omega)) ?_ ?_;focus (intro h;first|exact True.intro|exact h|exact rfl|exact ⟨h,rfl⟩|exact ⟨h,h,rfl⟩|exact hk|exact ⟨h,hk⟩|exact ⟨h,h,hk⟩|(simp +contextual at h ⊢;done);done))|(refine Pur.ask (number_spec _ _) ?_ ?_;focus (intro h;first|exact True.intro|exact h|exact rfl|exact ⟨h,rfl⟩|exact ⟨h,h,rfl⟩|exact hk|exact ⟨h,hk⟩|exact ⟨h,h,hk⟩|(simp +contextual at h ⊢;done);done))|(refine Pur.ask (word_spec _) ?_ ?_;focus (intro h;first|exact True.intro|exact h|exact rfl|exact ⟨h,rfl⟩|exact ⟨h,h,rfl⟩|exact hk|exact ⟨h,hk⟩|exact ⟨h,h,hk⟩|(simp +contextual at h ⊢;done);done)))|((with_reducible refine CallC.id ?_);first|(refine Pur.askC (sort_spec _) ?_ ?_;focus (intro h;first|exact True.intro|exact h|exact rfl|exact ⟨h,rfl⟩|exact ⟨h,h,rfl⟩|exact hk|exact ⟨h,hk⟩|exact ⟨h,h,hk⟩|(simp +contextual at h ⊢;done);done))|(refine Pur.askC (key_spec _) ?_ ?_;focus (intro h;first|exact True.intro|exact h|exact rfl|exact ⟨h,rfl⟩|exact ⟨h,h,rfl⟩|exact hk|exact ⟨h,hk⟩|exact ⟨h,h,hk⟩|(simp +contextual at h ⊢;done);done))|(refine Pur.askC (sign_spec _ (by simp;omega)) ?_ ?_;focus (intro h;first|exact True.intro|exact h|exact rfl|exact ⟨h,rfl⟩|exact ⟨h,h,rfl⟩|exact hk|exact ⟨h,hk⟩|exact ⟨h,h,hk⟩|(simp +contextual at h ⊢;done);done))|(refine Pur.askC (number_spec _ _) ?_ ?_;focus (intro h;first|exact True.intro|exact h|exact rfl|exact ⟨h,rfl⟩|exact ⟨h,h,rfl⟩|exact hk|exact ⟨h,hk⟩|exact ⟨h,h,hk⟩|(simp +contextual at h ⊢;done);done))|(refine Pur.askC (word_spec _) ?_ ?_;focus (intro h;first|exact True.intro|exact h|exact rfl|exact ⟨h,rfl⟩|exact ⟨h,h,rfl⟩|exact hk|exact ⟨h,hk⟩|exact ⟨h,h,hk⟩|(simp +contextual at h ⊢;done);done))|refine CallC.two ?_)|((with_reducible refine qThen.id ?_);first|refine qThen.go ?_|refine qThen.ret ?_|refine qThen.exit ?_|refine qThen.pan ?_)|((with_reducible refine hinBlock.id ?_);first|refine hinBlock.go ?_|refine hinBlock.ret ?_|refine hinBlock.pan ?_|refine hinBlock.here rfl ?_|refine hinBlock.on rfl ?_)|((with_reducible refine hround.id ?_);first|refine hround.go ?_|refine hround.ret ?_|refine hround.exit ?_|refine hround.pan ?_)|((with_reducible refine bodyQ.id ?_);first|refine bodyQ.ret rfl ?_|refine bodyQ.ret2 rfl ?_|refine bodyQ.ret0 rfl ?_|refine bodyQ.go ?_|refine bodyQ.pan ?_)|(refine drawQ cx (by decide +kernel) ?_;(conv=>whnf))|((conv=>whnf);first|((with_reducible refine Side.id ?_);first|refine Side.mk True.intro ?_|refine Side.mk rfl ?_|refine Side.mk (fun h=>h) ?_|refine Side.mk (sign_side (by omega) hs) ?_|(refine Side.mk ?_ ?_;focus (intro hside;rw [hside];done))|(refine Side.mk ?_ ?_;focus (((repeat' apply And.intro)<;>first|exact True.intro|assumption|rfl|omega|(simp;done)|(simp;omega)|(simp only [Bool.and_eq_true,Bool.or_eq_true,Bool.not_eq_true',decide_eq_true_eq,decide_eq_false_iff_not,beq_iff_eq,ne_eq,beq_eq_false_iff_ne,Bool.and_eq_false_iff,Bool.or_eq_false_iff] at *;omega)|(simp +contextual;done));done))|(refine Side.mk ?_ ?_;focus (intro hside;((repeat' apply And.intro)<;>first|exact True.intro|assumption|rfl|omega|(simp;done)|(simp;omega)|(simp only [Bool.and_eq_true,Bool.or_eq_true,Bool.not_eq_true',decide_eq_true_eq,decide_eq_false_iff_not,beq_iff_eq,ne_eq,beq_eq_false_iff_ne,Bool.and_eq_false_iff,Bool.or_eq_false_iff] at *;omega)|(simp +contextual;done));done)))|((with_reducible refine Look.id ?_);first|(refine Look.hit ?_;try (conv=>arg 7;whnf))|refine Look.miss (by omega) ?_)|((with_reducible refine QAsk.id ?_);first|(refine Pur.ask (sort_spec _) ?_ ?_;focus (intro h;first|exact True.intro|exact h|exact rfl|exact ⟨h,rfl⟩|exact ⟨h,h,rfl⟩|exact hk|exact ⟨h,hk⟩|exact ⟨h,h,hk⟩|(simp +contextual at h ⊢;done);done))|(refine Pur.ask (key_spec _) ?_ ?_;focus (intro h;first|exact True.intro|exact h|exact rfl|exact ⟨h,rfl⟩|exact ⟨h,h,rfl⟩|exact hk|exact ⟨h,hk⟩|exact ⟨h,h,hk⟩|(simp +contextual at h ⊢;done);done))|(refine Pur.ask (sign_spec _ (by simp;omega)) ?_ ?_;focus (intro h;first|exact True.intro|exact h|exact rfl|exact ⟨h,rfl⟩|exact ⟨h,h,rfl⟩|exact hk|exact ⟨h,hk⟩|exact ⟨h,h,hk⟩|(simp +contextual at h ⊢;done);done))|(refine Pur.ask (number_spec _ _) ?_ ?_;focus (intro h;first|exact True.intro|exact h|exact rfl|exact ⟨h,rfl⟩|exact ⟨h,h,rfl⟩|exact hk|exact ⟨h,hk⟩|exact ⟨h,h,hk⟩|(simp +contextual at h ⊢;done);done))|(refine Pur.ask (word_spec _) ?_ ?_;focus (intro h;first|exact True.intro|exact h|exact rfl|exact ⟨h,rfl⟩|exact ⟨h,h,rfl⟩|exact hk|exact ⟨h,hk⟩|exact ⟨h,h,hk⟩|(simp +contextual at h ⊢;done);done)))|((with_reducible refine SemWp.id ?_);first|refine sem_seq ?_|refine sem_region rfl ?_|refine sem_cond rfl ?_|refine sem_block ?_|refine sem_exit ?_|refine sem_ret ?_|refine sem_skip ?_|refine sem_label ?_|refine sem_draw ?_))|fail
   ·rename_i hj hb
    exact Fin.mk ⟨(j+1,pre),⟨by simp only [];omega,by simp only [];omega,by rw [←h3,lexL_skip (by omega) (by omega) (nxt_blank hb)]⟩,by simp only [];omega,Sub.cons rfl rfl (Sub.cons rfl rfl (Sub.cons rfl rfl (Sub.cons rfl rfl (Sub.cons rfl rfl (Sub.nil _))))),Subp.skip (Subp.of_eq (by rw [wrap64 (by omega)];rfl)) _⟩
   ·rename_i hj h0 hb
    have g1:=scan_lt (p:=fun b=>b != 10) (s:=s) (i:=j) (by omega) (by rw [hb];rfl)
    have g2:=scan_le (fun b=>b != 10) s j (by omega)
    exact Fin.mk ⟨(scan (fun b=>b != 10) s j,pre),⟨g2,by simp only [];omega,by rw [←h3,lexL_skip (by omega) g1 (nxt_line h0 hb)]⟩,by simp only [];omega,Sub.cons rfl rfl (Sub.cons rfl rfl (Sub.cons rfl rfl (Sub.cons rfl rfl (Sub.cons rfl rfl (Sub.nil _))))),Subp.rot rfl⟩
   ·rename_i hj h0 hb hl hk hz
    exact Fin.mk (lex_err (by omega) (nxt_longE h0 hb hl (by omega)) h3)
   ·rename_i hj h0 hb hl hk hz
    have g1:=scan_lt (p:=wordZ) (s:=s) (i:=j) (by omega) (by simp [wordZ,hl])
    have g2:=scan_le wordZ s j (by omega)
    refine Fin.mk ⟨(scan wordZ s j,pre ++ [⟨3,s.extract j (scan wordZ s j),j⟩]),⟨g2,by simp;omega,?_⟩,by simp only [];omega,Sub.cons rfl rfl (Sub.cons rfl rfl (Sub.cons rfl rfl (Sub.cons rfl rfl (Sub.cons rfl (by simp [tokD,ii,ss]) (Sub.nil _))))),Subp.rot (by simp)⟩
    exact (lexL_tok (by omega) g1 (by rw [nxt_word h0 hb hl (by omega),hk];rfl) pre).trans h3
   ·rename_i hj h0 hb hl hk hz
    exact Fin.mk (lex_err (by omega) (nxt_longE h0 hb hl (by omega)) h3)
   ·rename_i hj h0 hb hl hk hz
    have g1:=scan_lt (p:=wordZ) (s:=s) (i:=j) (by omega) (by simp [wordZ,hl])
    have g2:=scan_le wordZ s j (by omega)
    refine Fin.mk ⟨(scan wordZ s j,pre ++ [⟨1,s.extract j (scan wordZ s j),j⟩]),⟨g2,by simp;omega,?_⟩,by simp only [];omega,Sub.cons rfl rfl (Sub.cons rfl rfl (Sub.cons rfl rfl (Sub.cons rfl rfl (Sub.cons rfl (by simp [tokD,ii,ss]) (Sub.nil _))))),Subp.rot (by simp)⟩
    exact (lexL_tok (by omega) g1 (by rw [nxt_word h0 hb hl (by omega),hk];rfl) pre).trans h3
   ·rename_i hj h0 hb hl hd hz
    exact Fin.mk (lex_err (by omega) (nxt_numE h0 hb hl hd (by simp) hz) h3)
   ·rename_i hj h0 hb hl hd hz
    have g1:=scan_lt (p:=digitZ) (s:=s) (i:=j) (by omega) hd
    have g2:=scan_le digitZ s j (by omega)
    refine Fin.mk ⟨(scan digitZ s j,pre ++ [⟨2,s.extract j (scan digitZ s j),j⟩]),⟨g2,by simp;omega,?_⟩,by simp only [];omega,Sub.cons rfl rfl (Sub.cons rfl rfl (Sub.cons rfl rfl (Sub.cons rfl rfl (Sub.cons rfl (by simp [tokD,ii,ss]) (Sub.nil _))))),Subp.rot (by simp)⟩
    exact (lexL_tok (by omega) g1 (nxt_num h0 hb hl hd (by simp) hz) pre).trans h3
   ·rename_i hj h0 hb hl hd hz
    exact Fin.mk (lex_err (by omega) (nxt_signE h0 hb hl hd (by simpa using hz)) h3)
   ·rename_i hj h0 hb hl hd hz
    have hz:¬ signS (s.extract j s.size)=0:=by simpa using hz
    have g1:=signS_le (s.extract j s.size) (by simp;omega)
    simp only [ByteArray.size_extract,Nat.min_self] at g1
    have e:IntKind.i64.wrap ((j:Int)+signS (s.extract (j:Int).toNat s.size))=((j+signS (s.extract j s.size):Nat):Int):=by
     rw [Int.toNat_natCast,wrap64 (by omega)];omega
    have e2:IntKind.i64.wrap ((j:Int)+(signS (s.extract j s.size):Int))=(j:Int)+signS (s.extract j s.size):=wrap64 (by omega)
    have e1:((j:Int)+(signS (s.extract j s.size):Int)).toNat=j+signS (s.extract j s.size):=by omega
    refine Fin.mk ⟨(j+signS (s.extract j s.size),pre ++ [⟨4,s.extract j (j+signS (s.extract j s.size)),j⟩]),⟨by simp only [];omega,by simp;omega,?_⟩,by simp only [];omega,Sub.cons rfl rfl (Sub.cons rfl rfl (Sub.cons rfl rfl (Sub.cons rfl rfl (Sub.cons rfl (by simp [tokD,ii,ss,e1,e2]) (Sub.nil _))))),Subp.skip (Subp.of_eq (by simp [ii,e2])) _⟩
    exact (lexL_tok (by omega) (by omega) (nxt_sign h0 hb hl hd hz) pre).trans h3
   ·rename_i hj
    refine Fin.mk ⟨_,_,_,rfl,_,Weaker.tok _ _ _,?_⟩
    rw [←h3,lexL_end (by omega)]
    simp only [comb,lexV,List.map_append];rfl
 ·rintro e s1 ⟨l,e0,at_,rfl,l',hw,h⟩
  exact ⟨_,[],.ret (.tup (.cons hw (.cons (.refl _) (.cons (.refl _) .nil)))),Subp.nil _,by rw [h],rfl⟩
end Go.Proofs.Hk

set_option maxHeartbeats 4000000
set_option linter.unusedVariables false
set_option maxRecDepth 4000
set_option linter.unusedSimpArgs false
namespace Go.Proofs.Hk
open Go Go.Proofs
/-! The tokens, as the kernel reckons them fast. -/
noncomputable section
def spanR (p:Int→Bool) (l:List UInt8):List UInt8 × List UInt8:=List.rec ([],[]) (fun b r ih=>Bool.rec ([],b::r) (b::ih.1,ih.2) (p (b.toNat:Int))) l
theorem spanR_yes {p:Int→Bool} {b:UInt8} {r:List UInt8} (h:p (b.toNat:Int)=true):spanR p (b::r)=(b::(spanR p r).1,(spanR p r).2):=by
 show (Bool.rec ([],b::r) (b::(spanR p r).1,(spanR p r).2) (p (b.toNat:Int)):List UInt8 × List UInt8)=_
 rw [h]
theorem spanR_no {p:Int→Bool} {b:UInt8} {r:List UInt8} (h:p (b.toNat:Int)=false):spanR p (b::r)=([],b::r):=by
 show (Bool.rec ([],b::r) (b::(spanR p r).1,(spanR p r).2) (p (b.toNat:Int)):List UInt8 × List UInt8)=_
 rw [h]
theorem at_drop {s:ByteArray} {i:Nat} {b:UInt8} {r:List UInt8} (h:s.data.toList.drop i=b::r):i < s.size∧byteAt s (i:Int)=(b.toNat:Int)∧s.data.toList.drop (i+1)=r:=by
 have hlt:i < s.data.toList.length:=by
  rcases Nat.lt_or_ge i s.data.toList.length with h1|h1
  ·exact h1
  ·rw [List.drop_eq_nil_of_le h1] at h;cases h
 have hh:=List.drop_eq_getElem_cons hlt
 rw [h] at hh
 injection hh with h1 h2
 refine ⟨hlt,?_,h2.symm⟩
 unfold byteAt
 rw [Int.toNat_natCast,List.getD_eq_getElem?_getD,List.getElem?_eq_getElem hlt,h1]
 rfl
theorem end_drop {s:ByteArray} {i:Nat} (h:s.data.toList.drop i=[]):s.size≤i:=by
 rcases Nat.lt_or_ge i s.data.toList.length with h1|h1
 ·rw [List.drop_eq_getElem_cons h1] at h;cases h
 ·exact h1
theorem span_scan (p:Int→Bool) (s:ByteArray):∀ (l:List UInt8) (i:Nat),s.data.toList.drop i=l→scan p s i=i+(spanR p l).1.length∧s.data.toList.drop (i+(spanR p l).1.length)=(spanR p l).2∧(s.data.toList.drop i).take (spanR p l).1.length=(spanR p l).1
 |[],i,h=>by
  have:=end_drop h
  refine ⟨scan_end (by omega),?_,rfl⟩
  exact h
 |b::r,i,h=>by
  obtain ⟨h1,h2,h3⟩:=at_drop h
  cases hp:p (b.toNat:Int) with
  |true=>
   obtain ⟨i1,i2,i3⟩:=span_scan p s r (i+1) h3
   rw [spanR_yes hp]
   simp only [List.length_cons]
   refine ⟨?_,?_,?_⟩
   ·rw [←scan_yes h1 (by rw [h2];exact hp),i1];omega
   ·rw [show i+((spanR p r).1.length+1)=i+1+(spanR p r).1.length from by omega];exact i2
   ·rw [h3] at i3
    rw [h,List.take_succ_cons,i3]
  |false=>
   rw [spanR_no hp]
   exact ⟨scan_no (by rw [h2];exact hp),h,by simp⟩
theorem ext_take {s:ByteArray} {i n:Nat} (h:i+n≤s.size):s.extract i (i+n)=⟨⟨(s.data.toList.drop i).take n⟩⟩:=by
 apply ByteArray.ext
 apply Array.toList_inj.1
 rw [cut_extract s i (i+n) h,List.drop_take]
 simp
theorem ext_drop {s:ByteArray} {i:Nat} : s.extract i s.size=⟨⟨s.data.toList.drop i⟩⟩:=by
 apply ByteArray.ext
 apply Array.toList_inj.1
 rw [cut_extract s i s.size (Nat.le_refl _),List.take_of_length_le (show s.data.toList.length≤s.size from Nat.le_refl _)]
def isAny (l:List UInt8) (ws:List (List UInt8)):Bool:=List.rec false (fun w _ ih=>Bool.rec ih true (beqL l w)) ws
def keyW:List (List UInt8):=[[112,114,111,99],[118,97,114],[104,97,118,111,99],[97,115,115,117,109,101],[97,115,115,101,114,116],[105,102],[101,108,115,101],[119,104,105,108,101],[101,105,116,104,101,114],[111,114],[97,110,100],[110,111,116],[116,114,117,101],[102,97,108,115,101],[115,107,105,112]]
def twoW:List (List UInt8):=[[61,61],[33,61],[60,61],[62,61],[45,62]]
theorem or_rec (a b:Bool):(Bool.rec b true a:Bool)=(a||b):=by cases a<;>rfl
theorem keyK_eq (l:List UInt8):keyS ⟨⟨l⟩⟩=isAny l keyW:=by
 unfold keyS keyW isAny
 simp only [cstrEq_eq,cstrEq,or_rec,Bool.or_false,Bool.or_assoc]
def consK (t:Tk) (r:Except (Int × Nat) (List Tk)):Except (Int × Nat) (List Tk):=
 match r with
 |.ok l=>.ok (t::l)
 |.error e=>.error e
def moreK (l:List UInt8):Bool:=
 match l with
 |[]=>false
 |b::_=>wordZ (b.toNat:Int)
def lexK:Nat→List UInt8→Nat→Except (Int × Nat) (List Tk)
 |0,_,i=>.error (99,i)
 |_+1,[],i=>.ok [⟨0,⟨#[]⟩,i⟩]
 |f+1,b::r,i=>
  match blankZ (b.toNat:Int) with
  |true=>forceN (Nat.succ i) fun j=>lexK f r j
  |false=>match Nat.beq b.toNat 35 with
   |true=>forceN (i+lenR (spanR (fun b=>b != 10) (b::r)).1) fun j=>lexK f (spanR (fun b=>b != 10) (b::r)).2 j
   |false=>match letterZ (b.toNat:Int) with
    |true=>forceL (spanR wordZ (b::r)).1 fun w=>match Nat.ble (lenR w) 16 with
     |true=>consK ⟨match isAny w keyW with|true=>3|false=>1,⟨⟨w⟩⟩,i⟩ (forceN (i+lenR w) fun j=>lexK f (spanR wordZ (b::r)).2 j)
     |false=>.error (2,i)
    |false=>match digitZ (b.toNat:Int) with
     |true=>forceL (spanR digitZ (b::r)).1 fun w=>match ieq (numberS ⟨⟨w⟩⟩ (moreK (spanR digitZ (b::r)).2)) 0 with
      |true=>consK ⟨2,⟨⟨w⟩⟩,i⟩ (forceN (i+lenR w) fun j=>lexK f (spanR digitZ (b::r)).2 j)
      |false=>.error (numberS ⟨⟨w⟩⟩ (moreK (spanR digitZ (b::r)).2),i)
     |false=>match r with
      |[]=>match oneZ (b.toNat:Int) with
       |true=>consK ⟨4,⟨⟨[b]⟩⟩,i⟩ (forceN (Nat.succ i) fun j=>lexK f [] j)
       |false=>.error (3,i)
      |c::q=>match isAny [b,c] twoW with
       |true=>consK ⟨4,⟨⟨[b,c]⟩⟩,i⟩ (forceN (i+2) fun j=>lexK f q j)
       |false=>match oneZ (b.toNat:Int) with
        |true=>consK ⟨4,⟨⟨[b]⟩⟩,i⟩ (forceN (Nat.succ i) fun j=>lexK f (c::q) j)
        |false=>.error (3,i)
theorem lexL_tok' {s:ByteArray} {i j:Nat} {t:Tk} (h:i < s.size) (hj:i < j) (hn:nxt s i = .tok t j):lexL s i=consK t (lexL s j):=by
 conv=>lhs;unfold lexL
 rw [dif_pos h,hn]
 simp only []
 rw [show max (i+1) j=j from by omega]
 rfl
theorem sign1 (b:UInt8):signS ⟨⟨[b]⟩⟩=match oneZ (b.toNat:Int) with|true=>1|false=>0:=by
 unfold signS
 rw [if_neg (fun h=>absurd h.1 (show ¬ 1 < 1 from by decide))]
 show (if oneZ (b.toNat:Int)=true then 1 else 0)=_
 cases oneZ (b.toNat:Int)<;>rfl
theorem sign2 (b c:UInt8) (q:List UInt8):signS ⟨⟨b::c::q⟩⟩=match isAny [b,c] twoW with|true=>2|false=>match oneZ (b.toNat:Int) with|true=>1|false=>0:=by
 have e:(⟨⟨b::c::q⟩⟩:ByteArray).extract 0 2=⟨⟨[b,c]⟩⟩:=by
  have:=ext_take (s:=⟨⟨b::c::q⟩⟩) (i:=0) (n:=2) (by show 0+2≤(b::c::q).length;simp)
  rw [Nat.zero_add] at this
  rw [this];rfl
 have hs:1 < (⟨⟨b::c::q⟩⟩:ByteArray).size:=by show 1 < (b::c::q).length;simp
 have e2:twoS ⟨⟨[b,c]⟩⟩=isAny [b,c] twoW:=by
  unfold twoS isAny twoW
  simp only [cstrEq_eq,cstrEq,or_rec,Bool.or_false,Bool.or_assoc]
 unfold signS
 rw [e,e2]
 cases isAny [b,c] twoW with
 |true=>rw [if_pos ⟨hs,rfl⟩]
 |false=>
  rw [if_neg (by simp)]
  show (if oneZ (b.toNat:Int)=true then 1 else 0)=_
  cases oneZ (b.toNat:Int)<;>rfl
theorem lexK_eq (s:ByteArray):∀ (f:Nat) (l:List UInt8) (i:Nat),s.data.toList.drop i=l→i≤s.size→l.length < f→lexK f l i=lexL s i
 |0,l,i,_,_,hf=>by omega
 |f+1,[],i,h,hi,_=>by
  have:=end_drop h
  rw [lexL_end (by omega),show s.size=i from by omega]
  rfl
 |f+1,b::r,i,h,hi,hf=>by
  obtain ⟨h1,h2,h3⟩:=at_drop h
  have hr:r.length < f:=by simp only [List.length_cons] at hf;omega
  have key:∀ (p:Int→Bool),p (b.toNat:Int)=true→i < scan p s i∧i+(spanR p (b::r)).1.length=scan p s i∧scan p s i≤s.size∧lexK f (spanR p (b::r)).2 (scan p s i)=lexL s (scan p s i)∧s.extract i (scan p s i)=⟨⟨(spanR p (b::r)).1⟩⟩:=fun p hp=>by
   obtain ⟨s1,s2,s3⟩:=span_scan p s (b::r) i h
   have hlt:=scan_lt h1 (by rw [h2];exact hp)
   have hle:=scan_le p s i hi
   refine ⟨hlt,s1.symm,hle,?_,?_⟩
   ·rw [s1] at hlt hle ⊢
    refine lexK_eq s f _ _ s2 hle ?_
    rw [←s2,List.length_drop]
    have:s.data.toList.length=i+(b::r).length:=by
     rw [←h,List.length_drop]
     have:i < s.data.toList.length:=h1
     omega
    simp only [List.length_cons] at this
    omega
   ·rw [s1,ext_take (by omega),s3]
  simp only [lexK,forceN_eq,forceL_eq,lenR_eq]
  cases hb:blankZ (b.toNat:Int) with
  |true=>
   simp only
   rw [lexL_skip h1 (Nat.lt_succ_self i) (nxt_blank (by rw [h2];exact hb))]
   exact lexK_eq s f r _ h3 h1 hr
  |false=>
   simp only
   have hb':blankZ (byteAt s (i:Int))=false:=by rw [h2];exact hb
   cases hq:Nat.beq b.toNat 35 with
   |true=>
    have hq:=Nat.eq_of_beq_eq_true hq
    simp only
    obtain ⟨k1,k2,k3,k4,k5⟩:=key (fun b=>b != 10) (by rw [hq];decide)
    rw [k2,lexL_skip h1 k1 (nxt_line hb' (by rw [h2,hq];rfl))]
    exact k4
   |false=>
    have hq:¬ byteAt s (i:Int)=35:=by
     rw [h2];intro e
     have:b.toNat=35:=by omega
     rw [this] at hq;cases hq
    simp only
    cases hl:letterZ (b.toNat:Int) with
    |true=>
     have hl':letterZ (byteAt s (i:Int))=true:=by rw [h2];exact hl
     simp only
     obtain ⟨k1,k2,k3,k4,k5⟩:=key wordZ (by unfold wordZ;rw [hl];rfl)
     have hsz:(s.extract i (scan wordZ s i)).size=(spanR wordZ (b::r)).1.length:=by rw [k5];rfl
     cases hc:Nat.ble (spanR wordZ (b::r)).1.length 16 with
     |true=>
      have hc:=Nat.le_of_ble_eq_true hc
      simp only
      rw [lexL_tok' h1 k1 (nxt_word hb' hq hl' (by omega)),k2,k4,k5,keyK_eq]
      cases isAny (spanR wordZ (b::r)).1 keyW<;>rfl
     |false=>
      have hc:¬ (spanR wordZ (b::r)).1.length≤16:=fun h=>by rw [Nat.ble_eq_true_of_le h] at hc;cases hc
      simp only
      rw [lexL_err h1 (nxt_longE hb' hq hl' (by omega))]
    |false=>
     have hl':letterZ (byteAt s (i:Int))=false:=by rw [h2];exact hl
     simp only
     cases hd:digitZ (b.toNat:Int) with
     |true=>
      have hd':digitZ (byteAt s (i:Int))=true:=by rw [h2];exact hd
      simp only
      obtain ⟨k1,k2,k3,k4,k5⟩:=key digitZ hd
      have hm:moreK (spanR digitZ (b::r)).2=(decide (scan digitZ s i < s.size) && wordZ (byteAt s (scan digitZ s i))):=by
       obtain ⟨s1,s2,s3⟩:=span_scan digitZ s (b::r) i h
       rw [←s1] at s2
       cases hz:(spanR digitZ (b::r)).2 with
       |nil=>
        rw [hz] at s2
        have:=end_drop s2
        rw [decide_eq_false (by omega)];rfl
       |cons c q=>
        rw [hz] at s2
        obtain ⟨t1,t2,t3⟩:=at_drop s2
        rw [decide_eq_true t1,t2];rfl
      cases hc:ieq (numberS ⟨⟨(spanR digitZ (b::r)).1⟩⟩ (moreK (spanR digitZ (b::r)).2)) 0 with
      |true=>
       have hc:=ieq_iff.1 hc
       simp only
       rw [lexL_tok' h1 k1 (nxt_num hb' hq hl' hd' hm (by rw [k5];exact hc)),k2,k4,k5]
      |false=>
       have hc:¬ numberS ⟨⟨(spanR digitZ (b::r)).1⟩⟩ (moreK (spanR digitZ (b::r)).2)=0:=fun e=>by rw [ieq_iff.2 e] at hc;cases hc
       simp only
       rw [lexL_err h1 (nxt_numE hb' hq hl' hd' hm (by rw [k5];exact hc)),k5]
     |false=>
      have hd':digitZ (byteAt s (i:Int))=false:=by rw [h2];exact hd
      simp only
      have hx:s.extract i s.size=⟨⟨b::r⟩⟩:=by rw [ext_drop,h]
      have len:s.data.toList.length=i+(r.length+1):=by
       have:s.data.toList.length - i=(b::r).length:=by rw [←h,List.length_drop]
       have hh:i < s.data.toList.length:=h1
       simp only [List.length_cons] at this
       omega
      have one:signS ⟨⟨b::r⟩⟩=1→lexL s i=consK ⟨4,⟨⟨[b]⟩⟩,i⟩ (lexK f r (i+1)):=fun e=>by
       rw [lexL_tok' h1 (j:=i+1) (by omega) (by rw [nxt_sign hb' hq hl' hd' (by rw [hx,e];decide),hx,e]),lexK_eq s f r _ h3 h1 hr,ext_take (by omega),h]
       rfl
      have none:signS ⟨⟨b::r⟩⟩=0→lexL s i = .error (3,i):=fun e=>lexL_err h1 (nxt_signE hb' hq hl' hd' (by rw [hx];exact e))
      cases r with
      |nil=>
       have sg:=sign1 b
       cases ho:oneZ (b.toNat:Int) with
       |true=>rw [ho] at sg;simp only;rw [one sg]
       |false=>rw [ho] at sg;simp only;rw [none sg]
      |cons c q=>
       have sg:=sign2 b c q
       dsimp only
       cases ht:isAny [b,c] twoW with
       |true=>
        rw [ht] at sg
        dsimp only at sg ⊢
        obtain ⟨t1,t2,t3⟩:=at_drop h3
        rw [lexL_tok' h1 (j:=i+2) (by omega) (by rw [nxt_sign hb' hq hl' hd' (by rw [hx,sg];decide),hx,sg]),ext_take (by simp only [List.length_cons] at len;show i+2≤s.data.toList.length;omega),h]
        congr 1
        exact lexK_eq s f q _ t3 (by show i+2≤s.data.toList.length;simp only [List.length_cons] at len;omega) (by simp only [List.length_cons] at hr;omega)
       |false=>
        rw [ht] at sg
        simp only at sg ⊢
        cases ho:oneZ (b.toNat:Int) with
        |true=>rw [ho] at sg;simp only;rw [one sg]
        |false=>rw [ho] at sg;simp only;rw [none sg]
def lexRK (l:List UInt8):Except (Int × Nat) (List Tk):=
 match Nat.ble (lenR l) 8192 with
 |true=>lexK (Nat.succ (lenR l)) l 0
 |false=>.error (2,8192)
theorem lexRK_eq (s:ByteArray):lexR s=lexRK s.data.toList:=by
 unfold lexR lexRK
 rw [lenR_eq]
 cases hc:Nat.ble s.data.toList.length 8192 with
 |true=>
  have hc:=Nat.le_of_ble_eq_true hc
  rw [if_neg (show ¬ s.size > 8192 from by show ¬ s.data.toList.length > 8192;omega)]
  exact (lexK_eq s _ _ 0 (by simp) (Nat.zero_le _) (Nat.lt_succ_self _)).symm
 |false=>
  have hc:¬ s.data.toList.length≤8192:=fun h=>by rw [Nat.ble_eq_true_of_le h] at hc;cases hc
  rw [if_pos (show s.size > 8192 from by show s.data.toList.length > 8192;omega)]
end
end Go.Proofs.Hk

import Derived.Test.YtoaccdmeojjdjaaGreatDoorE11
import Derived.Test.YtoaccdmeojjdjaaGreatDoorCX
import Derived.WalkKit
import Derived.Lib.Walk
import Derived.Lib.SliceRun
import Derived.Lib.AppendZerosOnto
set_option linter.unusedVariables false
set_option maxRecDepth 4000
set_option linter.unusedSimpArgs false
namespace Go.Proofs
open Go
theorem info9':Tryz.prog.info? 9=some Tryz.t9:=by kernel_rfl
theorem undSS:Tryz.prog.underlying 58=some (.slice 9):=by kernel_rfl
theorem und3:Tryz.prog.underlying 3=some (.int .i64):=by kernel_rfl
set_option maxHeartbeats 4000000 in
set_option maxRecDepth 100000 in
theorem grow_calls (n:Nat) (h0:0 < n) (hn:n≤1000000) (w:World):Calls Tryz.prog 95 #[.slice none 0 0,.int .i64 n] w fun e w'=>
  e = .returned (.slice (some ⟨w.heap.size,0,none⟩) 0 (grownCap w n 0 9))∧w'=w.drew.alloc (.cells (Builtin.zeroCells #[.string ⟨#[]⟩] n ++ Builtin.zeroCells #[.string ⟨#[]⟩] (grownCap w n 0 9 - n)) 9):=by
 have h1:¬ ((n:Int) < 0):=by omega
 have h4:(n:Int) > 0:=by omega
 have hbz:Tryz.t9.bytes=16:=by kernel_rfl
 have hsz:Tryz.t9.size=1:=by kernel_rfl
 have hGn:n≤grownCap w n 0 9:=grownCap_ge w _ _ _
 have hfit:¬ (281474976710656 < Builtin.nextslicecap n 0 * 16):=by
  have:=growslice_fits (need:=0+n) (old:=0) (bytes:=16) (by omega) (by omega)
  simp only [Nat.zero_add] at this
  omega
 go_enter Tryz.func95,Tryz.ntmps95
 go_wp2
 go_ret
 exact ⟨rfl,rfl⟩
set_option maxHeartbeats 4000000 in
set_option maxRecDepth 100000 in
theorem grow_calls0 (w:World):Calls Tryz.prog 95 #[.slice none 0 0,.int .i64 0] w fun e w'=>e = .returned (.slice none 0 0)∧w'=w:=by
 go_enter Tryz.func95,Tryz.ntmps95
 go_wp2
 go_ret
 exact ⟨rfl,rfl⟩
end Go.Proofs

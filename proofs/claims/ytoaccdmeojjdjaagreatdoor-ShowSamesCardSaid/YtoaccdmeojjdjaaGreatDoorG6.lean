import Derived.Test.YtoaccdmeojjdjaaGreatDoorCX
import Derived.WalkKit
import Derived.Lib.Walk
import Derived.Lib.Builder
import Derived.Lib.UnsafeStr
import Derived.Laws.Externs
set_option linter.unusedVariables false
set_option maxRecDepth 4000
set_option linter.unusedSimpArgs false
namespace Go.Proofs
open Go
theorem undPB:Tryz.prog.underlying 83=some (.pointer 85):=by kernel_rfl
theorem undUP:Tryz.prog.underlying 170=some .unsafePointer:=by kernel_rfl
theorem undP8:Tryz.prog.underlying 141=some (.pointer 5):=by kernel_rfl
theorem sizeB:(Tryz.prog.info? 85).map (·.size)=some 2:=by kernel_rfl
theorem liesB:liesAt Tryz.prog Tryz.prog.depth 85 (2 / Tryz.prog.cellsOf 85) 0 85 1=true:=by kernel_rfl
theorem cells8:Tryz.prog.cellsOf 5=1:=by kernel_rfl
set_option maxHeartbeats 4000000 in
set_option maxRecDepth 100000 in
theorem cc_used (b:Nat) (w:World) (h0:w.cell? ⟨b,0,none⟩=some (.pointer (some ⟨b,0,none⟩))) :
  Calls Tryz.prog 90 #[.pointer (some ⟨b,0,none⟩)] w fun e w'=>e = .returned (.tuple #[])∧w'=w:=by
 obtain ⟨j,hj,_⟩:=Option.map_eq_some_iff.1 sizeB
 go_enter Tryz.func90,Tryz.ntmps90
 go_wp2
 rw [Lib.run_neq_ptr_same w _ undPB hj]
 go_wp2
 go_end0
 exact ⟨rfl,rfl⟩
set_option maxHeartbeats 4000000 in
set_option maxRecDepth 100000 in
theorem cc_fresh (b:Nat) (w:World) (h0:w.cell? ⟨b,0,none⟩=some (.pointer none)) (hsh:w.shape? b=some (85,2)) (hfz:w.frozen? ⟨b,0,none⟩=false) :
  Calls Tryz.prog 90 #[.pointer (some ⟨b,0,none⟩)] w fun e w'=>e = .returned (.tuple #[])∧w'=w.setCell ⟨b,0,none⟩ (.pointer (some ⟨b,0,none⟩)):=by
 obtain ⟨j,hj,hjs⟩:=Option.map_eq_some_iff.1 sizeB
 go_enter Tryz.func90,Tryz.ntmps90
 go_wp2
 rw [Lib.run_to_unsafe w ⟨b,0,none⟩ undPB undUP hj (by rw [hjs];decide) hsh (Nat.zero_lt_succ 1)]
 simp only [Result.andThen]
 rw [Oper.upon_value]
 go_wp2
 rw [run_callFunc_extern Tryz.func146 (by kernel_rfl) (by kernel_rfl) (by kernel_rfl) (e:=Extern.AbiNoEscape.same) (by kernel_rfl)]
 rw [Lib.run_noEscape]
 simp only [Result.andThen]
 rw [Oper.upon_value]
 go_wp2
 rw [Lib.run_from_unsafe w ⟨b,0,none⟩ undUP undPB hj hsh liesB]
 simp only [Result.andThen]
 rw [Oper.upon_value]
 go_wp2
 go_end0
 exact ⟨rfl,rfl⟩
set_option maxHeartbeats 4000000 in
set_option maxRecDepth 100000 in
theorem str_row (b g n cap:Nat) (p:Value) (cur:Array Value) (l:List UInt8) (w:World) (hbk:w.heap[b]? = some (.cells #[p,.slice (some ⟨g,0,none⟩) n cap] 85 (0,0)))
  (hg:w.heap[g]? = some (.cells cur 5 (0,0))) (hl:l.length=n) (h0:l≠[]) (hn:n≤cap) (hcur:n≤cur.size) (h63:n≤9223372036854775807) (hcell:∀ (j:Nat) (x:UInt8),l[j]? = some x→cur[j]? = some (Value.int .u8 x.toNat)) :
  Calls Tryz.prog 51 #[.pointer (some ⟨b,0,none⟩)] w fun e w'=>e = .returned (.string ⟨l.toArray⟩)∧w'=w.drew.freeze ⟨g,0,none⟩ l.length:=by
 subst hl
 have hl0:l.length≠0:=by simpa using h0
 have c1:w.drew.cell? ⟨b,1,none⟩=some (.slice (some ⟨g,0,none⟩) l.length cap):=by
  have:w.drew.heap[b]? = some (.cells #[p,.slice (some ⟨g,0,none⟩) l.length cap] 85 (0,0)):=hbk
  rw [Lib.cell_of_heap this];rfl
 have hSD:(Builtin.unsafeSliceData_ #[37] 141 #[.slice (some ⟨g,0,none⟩) l.length cap]).run Tryz.prog w.drew = .ok (.pointer (some ⟨g,0,none⟩)) w.drew:=
  Lib.run_unsafeSliceData_row _ _ _ _ _ _ (by omega)
 have hUS:(Builtin.unsafeString_ #[141,3] 9 #[.pointer (some ⟨g,0,none⟩),.int .i64 l.length]).run Tryz.prog w.drew = .ok (.string ⟨l.toArray⟩) (w.drew.freeze ⟨g,0,none⟩ l.length):=by
  refine Lib.run_unsafeString_row w.drew 141 3 9 5 undP8 cells8 g cur.size (by have hg':w.drew.heap[g]? = some (.cells cur 5 (0,0)):=hg;simp [World.shape?,hg']) l h0 hcur h63 ?_
  intro j x hx
  have hg':w.drew.heap[g]? = some (.cells cur 5 (0,0)):=hg
  have:=hcell j x hx
  rw [show (⟨g,0,none⟩:Addr).add j=⟨g,j,none⟩ from by simp only [Addr.add];split<;>simp_all,Lib.cell_of_heap hg']
  simpa using this
 go_enter Tryz.func51,Tryz.ntmps51
 go_wp2
 go_region
 all_goals (go_wp2;go_ret;exact ⟨rfl,rfl⟩)
set_option maxHeartbeats 4000000 in
set_option maxRecDepth 100000 in
theorem str_nil (b:Nat) (p:Value) (w:World) (hbk:w.heap[b]? = some (.cells #[p,.slice none 0 0] 85 (0,0))) :
  Calls Tryz.prog 51 #[.pointer (some ⟨b,0,none⟩)] w fun e w'=>e = .returned (.string ⟨#[]⟩)∧w'=w.drew:=by
 have hUS:∀ (W:World) (q:Option Addr),(Builtin.unsafeString_ #[141,3] 9 #[.pointer q,.int .i64 0]).run Tryz.prog W = .ok (.string .empty) W:=fun W q=>Lib.run_unsafeString_none W _ _ _ q
 have c1:w.drew.cell? ⟨b,1,none⟩=some (.slice none 0 0):=by
  have:w.drew.heap[b]? = some (.cells #[p,.slice none 0 0] 85 (0,0)):=hbk
  rw [Lib.cell_of_heap this];rfl
 have hSD:(Builtin.unsafeSliceData_ #[37] 141 #[.slice none 0 0]).run Tryz.prog w.drew = .ok (.pointer none) w.drew:=rfl
 go_enter Tryz.func51,Tryz.ntmps51
 go_wp2
 go_region
 all_goals (go_wp2;go_ret;exact ⟨rfl,rfl⟩)
end Go.Proofs

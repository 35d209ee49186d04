import Derived.Test.YtcihapdaapkdjaaGreatDoorQ19a
import Derived.Test.YtcihapdaapkdjaaGreatDoorP10
set_option linter.unusedSimpArgs false
set_option linter.unusedVariables false
set_option linter.unusedVariables false
namespace Go.Proofs.Hk
open Go Go.Proofs
theorem progR_sm (s:ByteArray):(progR s).1.length≤8193∧∀ p∈(progR s).1,smP p:=by
 unfold progR
 split
 ·exact ⟨by simp,fun _ h=>absurd h (List.not_mem_nil)⟩
 ·rename_i l h
  have wf:=(lexR_wf h).toWfT
  split
  ·rename_i ps j hp
   have:=pProg_sm wf _ _ _ _ _ (lexR_pos h) hp (fun _ h=>absurd h (List.not_mem_nil))
   have wl:=wf.len
   simp only [List.length_nil] at this
   exact ⟨by show ps.length≤_;omega,this.1⟩
  ·exact ⟨by simp,fun _ h=>absurd h (List.not_mem_nil)⟩
  ·exact ⟨by simp,fun _ h=>absurd h (List.not_mem_nil)⟩
end Go.Proofs.Hk

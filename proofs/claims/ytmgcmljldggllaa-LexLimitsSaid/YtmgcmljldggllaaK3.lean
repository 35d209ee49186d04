/- LexLimits: names, numbers and texts at their limits are read, and those one byte longer are not: the law returns true at any two bytes. No condition. -/
import Derived.Test.YtmgcmljldggllaaK2
import Derived.Test.YtmgcmljldggllaaHZ
import Derived.Test.YtmgcmljldggllaaRows
set_option linter.unusedSimpArgs false
set_option linter.unusedVariables false
namespace Go.Proofs.Ytmgcmljldggllaa
open Go Go.ChangeShapes Go.WideShapes Go.ChangeAt Go.RowKit Go.Proofs.Hk
theorem Try.own : ownKnob Try.prog.godebug = none := by kernel_rfl
theorem Try.laidOut : laidOutB Try.prog = true := by kernel_rfl

set_option maxRecDepth 100000 in
theorem lexLimits_lifted (os : Os) (started : os.Started) (H : Type) (enc : TypeId × Value → H) :
    ReturnsInHanded {} Try.checked os 6 .any (Rows.lexLimitsSpec.pre6 enc Try.prog Try.f6 Rows.lexLimitsRow.domain false) (Rows.lexLimitsSpec.post enc Try.prog Try.f6 false true false false) := by
  refine returnsInHanded_of_change (C := Try.checked) Try.own started (by kernel_rfl) Try.func6
    (ChangeSpec.witness6 (enc := enc) (C := Try.checked) false ⟨#[], #[.int .u8 0, .int .u8 0], []⟩ 8 (by kernel_rfl) (by kernel_rfl) (by kernel_rfl) (by kernel_rfl)) ?_
  intro W base args ds gs before hval0 hW hcnd _
  have hval : ∀ (j : Nat) t v, Try.f6.params[j]? = some t → args[j]? = some v → Value.okWide Try.prog W .any base t v := hval0
  have hW' := hW
  obtain ⟨p, q, hA0, hV, rfl, hfz, hnd⟩ := hW
  have hA : DataW.TrodAll enc Try.prog W 0 (fun _ => true) true Try.f6.params.toList args.toList ds p := hA0
  rw [Try.params6] at hA hval
  obtain ⟨v0, vs0, d0, ds0, p0, q0, hargs0, rfl, rfl, h0, hA0⟩ := trodAll_cons hA
  obtain ⟨v1, vs1, d1, ds1, p1, q1, hargs1, rfl, rfl, h1, hA1⟩ := trodAll_cons hA0
  obtain ⟨hargsN, rfl, rfl⟩ := trodAll_nil hA1
  subst hargsN
  subst hargs1
  obtain ⟨args⟩ := args
  have hargs0 : args = _ := hargs0
  subst hargs0
  obtain ⟨rfl, rfl⟩ := trodVars_none hV
  obtain ⟨a0, rfl, rfl, rfl, w0⟩ := open_int Try.underlying5 (hval 0 5 v0 rfl rfl) h0
  obtain ⟨a1, rfl, rfl, rfl, w1⟩ := open_int Try.underlying5 (hval 1 5 v1 rfl rfl) h1
  clear hA0 hval0
  refine ((LexLimits_spec a0 w0 a1 w1).below (w := W) (vs := #[.int .u8 a0, .int .u8 a1]) ?_).mono fun e W' ⟨he, hw⟩ => ?_
  · show relVs _ [.v (.int .u8 a0), .v (.int .u8 a1)] [.int .u8 a0, .int .u8 a1]
    simp only [relVs_cons, relVs]
    exact ⟨_, _, rfl, rel_v _, ⟨_, _, rfl, rel_v _, rfl⟩⟩
  subst he
  exact ⟨_, rfl, law_post Try.laidOut (by kernel_rfl) rfl hW' hw rfl rfl rfl (by kernel_rfl) Try.underlying4⟩

theorem lexLimits_holds : Rows.LexLimitsSaid :=
  OpenClaim.holds_of_wide 6 Try.f6 rfl rfl rfl rfl rfl rfl rfl ⟨rfl, rfl, rfl, rfl, rfl⟩ rfl rfl rfl rfl rfl (by kernel_rfl) Try.func6 (by kernel_rfl)
    (of_decide_eq_true (by kernel_rfl)) (by unfold Func.isWrapper; first | (rw [if_pos (by decide +kernel)]; kernel_rfl) | (rw [if_neg (by decide +kernel)]; exact ⟨rfl, rfl⟩))
    (fun os started H enc _ => lexLimits_lifted os started H enc)
end Go.Proofs.Ytmgcmljldggllaa

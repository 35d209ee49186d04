/- LexJoins: two texts without an error, with a line end or a remark between, have the tokens of the first and, moved on, those of the second: the law returns true at any two texts. No condition. -/
import Derived.Test.YtmgcmljldggllaaJ3
import Derived.Test.YtmgcmljldggllaaHZ
import Derived.Test.YtmgcmljldggllaaRows
set_option linter.unusedSimpArgs false
set_option linter.unusedVariables false
namespace Go.Proofs.Ytmgcmljldggllaa
open Go Go.ChangeShapes Go.WideShapes Go.ChangeAt Go.RowKit Go.Proofs.Hk
theorem Try.own : ownKnob Try.prog.godebug = none := by kernel_rfl
theorem Try.laidOut : laidOutB Try.prog = true := by kernel_rfl

set_option maxRecDepth 100000 in
theorem lexJoins_lifted (os : Os) (started : os.Started) (H : Type) (enc : TypeId × Value → H) :
    ReturnsInHanded {} Try.checked os 5 .any (Rows.lexJoinsSpec.pre6 enc Try.prog Try.f5 Rows.lexJoinsRow.domain false) (Rows.lexJoinsSpec.post enc Try.prog Try.f5 false true false false) := by
  refine returnsInHanded_of_change (C := Try.checked) Try.own started (by kernel_rfl) Try.func5
    (ChangeSpec.witness6 (enc := enc) (C := Try.checked) false ⟨#[], #[.string ⟨#[]⟩, .string ⟨#[]⟩, .bool false], []⟩ 8 (by kernel_rfl) (by kernel_rfl) (by kernel_rfl) (by kernel_rfl)) ?_
  intro W base args ds gs before hval0 hW hcnd _
  have hval : ∀ (j : Nat) t v, Try.f5.params[j]? = some t → args[j]? = some v → Value.okWide Try.prog W .any base t v := hval0
  have hW' := hW
  obtain ⟨p, q, hA0, hV, rfl, hfz, hnd⟩ := hW
  have hA : DataW.TrodAll enc Try.prog W 0 (fun _ => true) true Try.f5.params.toList args.toList ds p := hA0
  rw [Try.params5] at hA hval
  obtain ⟨v0, vs0, d0, ds0, p0, q0, hargs0, rfl, rfl, h0, hA0⟩ := trodAll_cons hA
  obtain ⟨v1, vs1, d1, ds1, p1, q1, hargs1, rfl, rfl, h1, hA1⟩ := trodAll_cons hA0
  obtain ⟨v2, vs2, d2, ds2, p2, q2, hargs2, rfl, rfl, h2, hA2⟩ := trodAll_cons hA1
  obtain ⟨hargsN, rfl, rfl⟩ := trodAll_nil hA2
  subst hargsN
  subst hargs2
  subst hargs1
  obtain ⟨args⟩ := args
  have hargs0 : args = _ := hargs0
  subst hargs0
  obtain ⟨rfl, rfl⟩ := trodVars_none hV
  obtain ⟨a0, rfl, rfl, rfl, w0⟩ := Go.ChangeMaps.open_string Try.underlying9 (hval 0 9 v0 rfl rfl) h0
  obtain ⟨a1, rfl, rfl, rfl, w1⟩ := Go.ChangeMaps.open_string Try.underlying9 (hval 1 9 v1 rfl rfl) h1
  obtain ⟨a2, rfl, rfl, rfl⟩ := open_bool Try.underlying4 (hval 2 4 v2 rfl rfl) h2
  clear hA0 hval0
  refine ((LexJoins_spec a0 a1 a2).below (w := W) (vs := #[.string a0, .string a1, .bool a2]) ?_).mono fun e W' ⟨he, hw⟩ => ?_
  · show relVs _ [ss a0, ss a1, bb a2] [.string a0, .string a1, .bool a2]
    simp only [relVs_cons, relVs]
    exact ⟨_, _, rfl, rel_v _, ⟨_, _, rfl, rel_v _, ⟨_, _, rfl, rel_v _, rfl⟩⟩⟩
  subst he
  exact ⟨_, rfl, law_post Try.laidOut (by kernel_rfl) rfl hW' hw rfl rfl rfl (by kernel_rfl) Try.underlying4⟩

theorem lexJoins_holds : Rows.LexJoinsSaid :=
  OpenClaim.holds_of_wide 5 Try.f5 rfl rfl rfl rfl rfl rfl rfl ⟨rfl, rfl, rfl, rfl, rfl⟩ rfl rfl rfl rfl rfl (by kernel_rfl) Try.func5 (by kernel_rfl)
    (of_decide_eq_true (by kernel_rfl)) (by unfold Func.isWrapper; first | (rw [if_pos (by decide +kernel)]; kernel_rfl) | (rw [if_neg (by decide +kernel)]; exact ⟨rfl, rfl⟩))
    (fun os started H enc _ => lexJoins_lifted os started H enc)
end Go.Proofs.Ytmgcmljldggllaa

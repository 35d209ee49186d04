/- WalkGoes: the number that any affine form is, and where any edge leads, as the reference says it: the law returns true at any arguments. No condition. -/
import Derived.Test.YtmgcmljldggllaaS1
import Derived.Test.YtmgcmljldggllaaHZ
import Derived.Test.YtmgcmljldggllaaRows

set_option linter.unusedSimpArgs false
set_option linter.unusedVariables false
namespace Go.Proofs.Ytmgcmljldggllaa
open Go Go.ChangeShapes Go.WideShapes Go.ChangeAt Go.RowKit Go.Proofs.Hk
theorem Try.own : ownKnob Try.prog.godebug = none := by kernel_rfl
theorem Try.laidOut : laidOutB Try.prog = true := by kernel_rfl

set_option maxRecDepth 100000 in
theorem walkGoes_lifted (os : Os) (started : os.Started) (H : Type) (enc : TypeId × Value → H) :
    ReturnsInHanded {} Try.checked os 7 .any (Rows.walkGoesSpec.pre6 enc Try.prog Try.f7 Rows.walkGoesRow.domain false) (Rows.walkGoesSpec.post enc Try.prog Try.f7 false true false false) := by
  refine returnsInHanded_of_change (C := Try.checked) Try.own started (by kernel_rfl) Try.func7
    (ChangeSpec.witness6 (enc := enc) (C := Try.checked) false ⟨#[], #[.agg #[.slice none 0 0, .slice none 0 0, .bool false, .slice none 0 0], .agg #[.int .i64 0, .int .i64 0, .int .i64 0, .slice none 0 0, .slice none 0 0, .slice none 0 0], .slice none 0 0, .slice none 0 0], []⟩ 8 (by kernel_rfl) (by kernel_rfl) (by kernel_rfl) (by kernel_rfl)) ?_
  intro W base args ds gs before hval0 hW hcnd _
  have hval : ∀ (j : Nat) t v, Try.f7.params[j]? = some t → args[j]? = some v → Value.okWide Try.prog W .any base t v := hval0
  have hW' := hW
  obtain ⟨p, q, hA0, hV, rfl, hfz, hnd⟩ := hW
  have hA : DataW.TrodAll enc Try.prog W 0 (fun _ => true) true Try.f7.params.toList args.toList ds p := hA0
  rw [Try.params7] at hA hval
  obtain ⟨v0, vs0, d0, ds0, p0, q0, hargs0, rfl, rfl, h0, hA0⟩ := trodAll_cons hA
  obtain ⟨v1, vs1, d1, ds1, p1, q1, hargs1, rfl, rfl, h1, hA1⟩ := trodAll_cons hA0
  obtain ⟨v2, vs2, d2, ds2, p2, q2, hargs2, rfl, rfl, h2, hA2⟩ := trodAll_cons hA1
  obtain ⟨v3, vs3, d3, ds3, p3, q3, hargs3, rfl, rfl, h3, hA3⟩ := trodAll_cons hA2
  obtain ⟨hargsN, rfl, rfl⟩ := trodAll_nil hA3
  subst hargsN
  subst hargs3
  subst hargs2
  subst hargs1
  obtain ⟨args⟩ := args
  have hargs0 : args = _ := hargs0
  subst hargs0
  obtain ⟨rfl, rfl⟩ := trodVars_none hV
  obtain ⟨f0, h0⟩ := h0
  obtain ⟨a0, w0, r0⟩ := opAff.2 _ _ _ h0
  obtain ⟨f1, h1⟩ := h1
  obtain ⟨a1, w1, r1⟩ := opEdge.2 _ _ _ h1
  obtain ⟨f2, h2⟩ := h2
  obtain ⟨a2, w2, r2⟩ := opInts.2 _ _ _ h2
  obtain ⟨f3, h3⟩ := h3
  obtain ⟨a3, w3, r3⟩ := opInts.2 _ _ _ h3
  clear hA0 hval0
  refine ((WalkGoes_args a0 w0 a1 w1 a2 w2 a3 w3).below (w := W) (vs := #[v0, v1, v2, v3]) ?_).mono fun e W' ⟨he, hw⟩ => ?_
  · show relVs _ [encA a0, encE a1, LIs a2, LIs a3] [v0, v1, v2, v3]
    simp only [relVs_cons, relVs]
    exact ⟨_, _, rfl, rel_struct Try.underlying42 rfl (hval 0 42 v0 rfl rfl) r0, ⟨_, _, rfl, rel_struct Try.underlying46 rfl (hval 1 46 v1 rfl rfl) r1, ⟨_, _, rfl, rel_slice Try.underlying37 rfl (hval 2 37 v2 rfl rfl) r2, ⟨_, _, rfl, rel_slice Try.underlying37 rfl (hval 3 37 v3 rfl rfl) r3, rfl⟩⟩⟩⟩
  subst he
  exact ⟨_, rfl, law_post Try.laidOut (by kernel_rfl) rfl hW' hw rfl rfl rfl (by kernel_rfl) Try.underlying4⟩

theorem walkGoes_holds : Rows.WalkGoesSaid :=
  OpenClaim.holds_of_wide 7 Try.f7 rfl rfl rfl rfl rfl rfl rfl ⟨rfl, rfl, rfl, rfl, rfl⟩ rfl rfl rfl rfl rfl (by kernel_rfl) Try.func7 (by kernel_rfl)
    (of_decide_eq_true (by kernel_rfl)) (by unfold Func.isWrapper; first | (rw [if_pos (by decide +kernel)]; kernel_rfl) | (rw [if_neg (by decide +kernel)]; exact ⟨rfl, rfl⟩))
    (fun os started H enc _ => walkGoes_lifted os started H enc)
end Go.Proofs.Ytmgcmljldggllaa

/- WalkPaths: where any choices lead, through any edges, and how many of them go, as the reference says it: the law returns true at any arguments. No condition. -/
import Derived.Test.YtmgcmljldggllaaS1
import Derived.Test.YtmgcmljldggllaaHZ
import Derived.Test.YtmgcmljldggllaaRows

set_option linter.unusedSimpArgs false
set_option linter.unusedVariables false
namespace Go.Proofs.Ytmgcmljldggllaa
open Go Go.ChangeShapes Go.WideShapes Go.ChangeAt Go.RowKit Go.Proofs.Hk
theorem Try.own : ownKnob Try.prog.godebug = none := by kernel_rfl
theorem Try.laidOut : laidOutB Try.prog = true := by kernel_rfl

set_option maxRecDepth 100000 in
theorem walkPaths_lifted (os : Os) (started : os.Started) (H : Type) (enc : TypeId × Value → H) :
    ReturnsInHanded {} Try.checked os 8 .any (Rows.walkPathsSpec.pre6 enc Try.prog Try.f8 Rows.walkPathsRow.domain false) (Rows.walkPathsSpec.post enc Try.prog Try.f8 false true false false) := by
  refine returnsInHanded_of_change_sized (C := Try.checked) Try.own started (by kernel_rfl) Try.func8
    (ChangeSpec.witness6 (enc := enc) (C := Try.checked) false ⟨#[], #[.agg #[.slice none 0 0, .slice none 0 0, .slice none 0 0, .slice none 0 0], .slice none 0 0, .slice none 0 0], []⟩ 8 (by kernel_rfl) (by kernel_rfl) (by kernel_rfl) (by kernel_rfl)) ?_
  intro W base args ds gs before hval0 hW hcnd hsz0 _
  have hval : ∀ (j : Nat) t v, Try.f8.params[j]? = some t → args[j]? = some v → Value.okWide Try.prog W .any base t v := hval0
  have hW' := hW
  obtain ⟨p, q, hA0, hV, rfl, hfz, hnd⟩ := hW
  have hA : DataW.TrodAll enc Try.prog W 0 (fun _ => true) true Try.f8.params.toList args.toList ds p := hA0
  rw [Try.params8] at hA hval
  obtain ⟨v0, vs0, d0, ds0, p0, q0, hargs0, rfl, rfl, h0, hA0⟩ := trodAll_cons hA
  obtain ⟨v1, vs1, d1, ds1, p1, q1, hargs1, rfl, rfl, h1, hA1⟩ := trodAll_cons hA0
  obtain ⟨v2, vs2, d2, ds2, p2, q2, hargs2, rfl, rfl, h2, hA2⟩ := trodAll_cons hA1
  obtain ⟨hargsN, rfl, rfl⟩ := trodAll_nil hA2
  subst hargsN
  subst hargs2
  subst hargs1
  obtain ⟨args⟩ := args
  have hargs0 : args = _ := hargs0
  subst hargs0
  obtain ⟨rfl, rfl⟩ := trodVars_none hV
  have hf : ∀ n ∈ DataW.weightsEach Try.prog (53 :: 37 :: 64 :: _) (d0 :: d1 :: d2 :: _), n ≤ reachBytes := fun n hn => by simpa using List.all_eq_true.1 hsz0 n hn
  obtain ⟨k0, hf⟩ := fits_cons hf
  obtain ⟨k1, hf⟩ := fits_cons hf
  obtain ⟨k2, hf⟩ := fits_cons hf
  obtain ⟨f0, h0⟩ := h0
  obtain ⟨a0, w0, r0⟩ := opLow.2 _ _ _ h0 k0
  obtain ⟨f1, h1⟩ := h1
  obtain ⟨a1, w1, r1⟩ := opInts.2 _ _ _ h1
  obtain ⟨f2, h2⟩ := h2
  obtain ⟨a2, w2, r2⟩ := opChoices.2 _ _ _ h2
  clear hA0 hval0 hsz0
  refine ((WalkPaths_args a0 w0 a1 w1 a2 w2).below (w := W) (vs := #[v0, v1, v2]) ?_).mono fun e W' ⟨he, hw⟩ => ?_
  · show relVs _ [encLow a0, LIs a1, LCs a2] [v0, v1, v2]
    simp only [relVs_cons, relVs]
    exact ⟨_, _, rfl, rel_struct Try.underlying53 rfl (hval 0 53 v0 rfl rfl) r0, ⟨_, _, rfl, rel_slice Try.underlying37 rfl (hval 1 37 v1 rfl rfl) r1, ⟨_, _, rfl, rel_slice Try.underlying64 rfl (hval 2 64 v2 rfl rfl) r2, rfl⟩⟩⟩
  subst he
  exact ⟨_, rfl, law_post Try.laidOut (by kernel_rfl) rfl hW' hw rfl rfl rfl (by kernel_rfl) Try.underlying4⟩

theorem walkPaths_holds : Rows.WalkPathsSaid :=
  OpenClaim.holds_of_wide 8 Try.f8 rfl rfl rfl rfl rfl rfl rfl ⟨rfl, rfl, rfl, rfl, rfl⟩ rfl rfl rfl rfl rfl (by kernel_rfl) Try.func8 (by kernel_rfl)
    (of_decide_eq_true (by kernel_rfl)) (by unfold Func.isWrapper; first | (rw [if_pos (by decide +kernel)]; kernel_rfl) | (rw [if_neg (by decide +kernel)]; exact ⟨rfl, rfl⟩))
    (fun os started H enc _ => walkPaths_lifted os started H enc)
end Go.Proofs.Ytmgcmljldggllaa

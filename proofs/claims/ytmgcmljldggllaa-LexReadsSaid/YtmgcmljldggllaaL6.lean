/- LexReads: whatever the text, the tokens that lex.Lex tells, or the error and its place, are those of the reference, and the law returns true; the text reads as it did. No condition. -/
import Derived.Test.YtmgcmljldggllaaL5
import Derived.Test.YtmgcmljldggllaaRows
import Derived.ProofKit
import Derived.Below
import Derived.ChangeSame
set_option linter.unusedSimpArgs false
set_option linter.unusedVariables false
namespace Go.Proofs.Hk
open Go Go.Proofs Go.RowKit Go.WideShapes Go.ChangeShapes
/-- What is known at the entry. -/
def entryG (w : World) : Ghost := { K := fun b o => w.cell? ⟨b, o, none⟩, om := fun _ => none, top := fun _ => none, role := fun _ => none, lim := 0 }
theorem entry_srel (w : World) : SRel (entryG w) [] w :=
  ⟨fun _ _ _ e => e, by simp [keys], fun _ _ h => by simp at h, fun _ _ => ⟨rfl, rfl⟩, fun _ _ e => by simp [entryG] at e⟩
theorem Ext.below {G G' : Ghost} {w w' : World} (h : Ext [] G w G' w') : Below w.heap.size w w' :=
  ⟨h.os, h.tape, h.output, h.size, fun k hk => (h.blocks k hk (fun _ _ => by simp [keys])).1⟩
/-- A pure function that comes to a plain value, called from any world. -/
theorem Pur.below {c : Cx} {f : FuncId} {xs : List HV} {x : Value} (h : Pur c f xs (.v x)) {w : World} {vs : Array Value} (ha : relVs (entryG w) xs vs.toList) : Calls c.P f vs w fun e w' => e = .returned x ∧ Below w.heap.size w w' :=
  (h.out.out (entryG w) w vs (entry_srel w) ha).mono fun e w' ⟨he, s', G', ⟨h1, h2⟩, h3, h4⟩ => by
    subst h1
    cases e <;> first | exact h3.elim | skip
    exact ⟨by rw [rel_v_eq h3], h4.ext.below⟩
end Go.Proofs.Hk
namespace Go.Proofs.Ytmgcmljldggllaa
open Go Go.ChangeShapes Go.WideShapes Go.ChangeAt Go.RowKit Go.Proofs.Hk
section
variable {H : Type} {enc : TypeId × Value → H} {P : Program}
theorem post_of_below {f : Func} {s : ChangeSpec} {apart fresh handsOn again : Bool} {W W' : World} {args : Array Value} {v : Value} {ds gs : List (DataW H)} {before pa pv : List MemPlace}
    (hW : DataW.Whole enc P f.params.toList s.vars apart W args.toList ds gs before)
    (hres : ∀ (b : Nat) (sp : Nat → Bool) (hd : Bool), DataW.TrodAll enc P W' b sp hd f.resultTypes.toList (v.resultList f.resultTypes.size) (s.fn H (ds ++ gs)).results [])
    (hargs : ∀ sp : Nat → Bool, (∀ p ∈ before, sp p.block = true) → DataW.TrodAll enc P W' 0 sp true f.params.toList args.toList (s.fn H (ds ++ gs)).args pa)
    (hvars : ∀ sp : Nat → Bool, (∀ p ∈ before, sp p.block = true) → DataW.TrodVars enc P W' sp s.vars (s.fn H (ds ++ gs)).vars pv)
    (hps : before = pa ++ pv) (hb : Below W.heap.size W W')
    (hok : ∀ (j : Nat) (t : TypeId) (r : Value), f.resultTypes[j]? = some t → (v.resultList f.resultTypes.size)[j]? = some r → Value.okWide P W' .any 0 t r) :
    s.post enc P f apart fresh handsOn again W args v W' := by
  have hlt : ∀ p ∈ before, p.block < W.heap.size := fun p hp => hW.lt p hp
  have hold : ∀ p ∈ before, (fun b => decide (b < W.heap.size)) p.block = true := fun p hp => by simpa using hlt p hp
  refine ⟨ds, gs, before, [], pa, pv, hW, hres _ _ _, hargs _ hold, hvars _ hold, World.keptBut_mono (fun p hp => ⟨hp, ?_⟩) (hb.frame (· ∈ before)), fun _ => ?_⟩
  · rw [hps, List.mem_append] at hp
    exact Or.inr hp
  · obtain ⟨_, _, _, _, _, hz, hn⟩ := hW
    refine ⟨hok, _, _, ([] ++ pa) ++ pv, ⟨[] ++ pa, pv, trodAll_append (hargs _ (fun _ _ => rfl)) (hres _ _ _), hvars _ (fun _ _ => rfl), rfl, ?_, ?_⟩, ?_⟩
    · intro b off hp
      have hin : MemPlace.cell b off ∈ before := by rw [hps]; simpa using hp
      rw [hb.frozen (hlt _ hin)]
      exact hz b off hin
    · intro ha
      have := hn ha
      rw [hps] at this
      simpa using this
    · intro p hp _
      rw [hps]
      simpa using hp
end
theorem Try.own : ownKnob Try.prog.godebug = none := by kernel_rfl
theorem Try.laidOut : laidOutB Try.prog = true := by kernel_rfl

set_option maxRecDepth 100000 in
theorem lexReads_lifted (os : Os) (started : os.Started) (H : Type) (enc : TypeId × Value → H) :
    ReturnsInHanded {} Try.checked os 3 .any (Rows.lexReadsSpec.pre6 enc Try.prog Try.f3 Rows.lexReadsRow.domain false) (Rows.lexReadsSpec.post enc Try.prog Try.f3 false true false false) := by
  refine returnsInHanded_of_change (C := Try.checked) Try.own started (by kernel_rfl) Try.func3
    (ChangeSpec.witness6 (enc := enc) (C := Try.checked) false ⟨#[], #[.string ⟨#[]⟩], []⟩ 8 (by kernel_rfl) (by kernel_rfl) (by kernel_rfl) (by kernel_rfl)) ?_
  intro W base args ds gs before hval0 hW hcnd _
  have hval : ∀ (j : Nat) t v, Try.f3.params[j]? = some t → args[j]? = some v → Value.okWide Try.prog W .any base t v := hval0
  have hW' := hW
  obtain ⟨p, q, hA0, hV, rfl, hfz, hnd⟩ := hW
  have hA : DataW.TrodAll enc Try.prog W 0 (fun _ => true) true Try.f3.params.toList args.toList ds p := hA0
  rw [Try.params3] at hA hval
  obtain ⟨v0, d0, rfl, rfl, h0⟩ := trodAll_one hA
  obtain ⟨rfl, rfl⟩ := trodVars_none hV
  obtain ⟨a, rfl, rfl, rfl, wa⟩ := Go.ChangeMaps.open_string Try.underlying9 (hval 0 9 v0 rfl rfl) h0
  clear hA0 hval0
  simp only [List.append_nil] at hW'
  refine ((LexReads_spec a).below (w := W) (vs := #[.string a]) ?_).mono fun e W' ⟨he, hw⟩ => ?_
  · show relVs _ [ss a] [.string a]
    rw [relVs_cons]
    exact ⟨_, [], rfl, rel_v _, by simp [relVs]⟩
  subst he
  exact ⟨_, rfl, post_of_below (pa := []) (pv := []) hW' (fun _ _ _ => trodAll_mk1 (shut_bool Try.underlying4 true)) (fun sp _ => trodAll_mk1 (Go.ChangeMaps.shut_string Try.underlying9 wa)) (fun _ _ => rfl) rfl hw (ok_one (by kernel_rfl) rfl (okWide_bool_mk Try.underlying4 true))⟩

theorem lexReads_holds : Rows.LexReadsSaid :=
  OpenClaim.holds_of_wide 3 Try.f3 rfl rfl rfl rfl rfl rfl rfl ⟨rfl, rfl, rfl, rfl, rfl⟩ rfl rfl rfl rfl rfl (by kernel_rfl) Try.func3 (by kernel_rfl)
    (of_decide_eq_true (by kernel_rfl)) (by unfold Func.isWrapper; first | (rw [if_pos (by decide +kernel)]; kernel_rfl) | (rw [if_neg (by decide +kernel)]; exact ⟨rfl, rfl⟩))
    (fun os started H enc _ => lexReads_lifted os started H enc)
end Go.Proofs.Ytmgcmljldggllaa

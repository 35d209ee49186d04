import Derived.Test.YtmgcmljldggllaaH24
set_option linter.unusedSimpArgs false
set_option linter.unusedVariables false
set_option linter.unusedVariables false
namespace Go.Proofs.Hk
open Go

/-! Less may be known of a state. -/
theorem SemWp.wk {P : Program} {n : Nat} {code : Code} {Q : HExit → Fr → HS → Prop} {a : Fr} {s s' : HS} (hsr : ∀ G w, SRel G s w → SRel G s' w) (hk : ∀ r, r ∈ keys s' → r ∈ keys s) (h : SemWp P n code Q a s') : SemWp P n code Q a s :=
  ⟨fun G w ra hs hf => wp_mono (h.out G w ra (hsr G w hs) hf) fun _ _ _ ⟨he, a', s1, G', q, hr, hf', hp⟩ => by
    refine ⟨he, a', s1, G', q, hr, hf', hp.srel, ?_, fun r hr => ?_⟩
    · exact ⟨hp.ext.le, hp.ext.size, fun b hb hq => hp.ext.blocks b hb (fun r e hk' => hq r e (hk r hk')), fun r tp e hq => hp.ext.tops r tp e (fun hk' => hq (hk r hk')), hp.ext.lim, hp.ext.os, hp.ext.tape, hp.ext.output, fun r h0 hk' => hp.ext.voids r h0 (fun h => hk' (hk r h))⟩
    · exact (hp.names r hr).imp (hk r) (fun h => h)⟩
theorem SRel.wkCell {G : Ghost} {w : World} {r : Nat} {cs cs' : List HV} {t : TypeId} {s : HS} (h : SRel G ((r, .cells cs t) :: s) w) (hw : WeakerC cs cs') : SRel G ((r, .cells cs' t) :: s) w := by
  refine ⟨h.kw, h.keys, fun q x hx => ?_, h.fresh, h.role⟩
  rcases List.mem_cons.1 hx with e | hx
  · cases e
    obtain ⟨b, vs, e1, ro, hh, hc, hK⟩ := h.holds r _ List.mem_cons_self
    exact ⟨b, vs, e1, ro, hh, hw.rel hc, hK⟩
  · exact h.holds q x (List.mem_cons_of_mem _ hx)
theorem sem_wkCell (c : Cx) {n : Nat} {code : Code} {Q : HExit → Fr → HS → Prop} {a : Fr} {s s0 : HS} (r : Nat) {cs : List HV} (cs' : List HV) {t : TypeId} (hp : HPick s r (.cells cs t) s0) (hw : WeakerC cs cs') (h : SemWp c.P n code Q a ((r, .cells cs' t) :: s0)) : SemWp c.P n code Q a s :=
  SemWp.wk (fun G w hs => (hs.permd hp.perm.symm).wkCell hw) (fun q hq => by
    have e : keys ((r, Res.cells cs' t) :: s0) = keys ((r, Res.cells cs t) :: s0) := rfl
    rw [e] at hq
    obtain ⟨y, hy, rfl⟩ := List.mem_map.1 hq
    exact List.mem_map.2 ⟨y, hp.perm.mem_iff.1 hy, rfl⟩) h
/-- Less may be known of a value in a frame. -/
theorem sem_wkFr (c : Cx) {n : Nat} {code : Code} {Q : HExit → Fr → HS → Prop} {a : Fr} {s : HS} (t : Nat) {x : HV} (y : HV) (ha : a.get t = some (.sure, x)) (hw : Weaker x y) (h : SemWp c.P n code Q ((t, .sure, y) :: a) s) : SemWp c.P n code Q a s :=
  ⟨fun G w ra hs hf => h.out G w ra hs ⟨hf.size, hf.defers, fun t' g z e => by
    simp only [Fr.get] at e
    split at e
    · rename_i ht
      have := Nat.eq_of_beq_eq_true ht
      subst this
      cases e
      obtain ⟨h1, h2⟩ := hf.slots t _ _ ha
      exact ⟨h1, hw G _ h2⟩
    · exact hf.slots t' g z e⟩⟩
end Go.Proofs.Hk

import Derived.Test.YtmgcmljldggllaaH25
import Derived.Scope
set_option linter.unusedSimpArgs false
set_option linter.unusedVariables false
namespace Go.Proofs.Hk
open Go Go.Proofs
theorem Weaker.at {x y : HV} (h : Weaker x y) (hk : x.kd ≠ .tup) {G : Ghost} {cs : List Value} (hr : relC G x cs) : y.kd ≠ .tup ∧ relC G y cs := by
  cases hx : x.kd with
  | one =>
    obtain ⟨u, rfl, hu⟩ := relC_one hr hx
    obtain ⟨h1, h2⟩ := h G u (rel_leaf hr hx)
    rw [vkd_one hu] at h2
    exact ⟨by rw [h1, hu]; simp, h2⟩
  | agg =>
    obtain ⟨h1, h2⟩ := h G (.agg cs.toArray) ⟨by rw [hx]; rfl, by simpa [Value.cells] using hr⟩
    exact ⟨by rw [h1]; simp [vkd], by simpa [Value.cells] using h2⟩
  | tup => exact absurd hx hk
/-- Rows whose elements tell less. -/
inductive WeakerA : List HV → List HV → Prop
  | nil : WeakerA [] []
  | cons {x y : HV} {l m : List HV} (h : Weaker x y) (hx : x.kd ≠ .tup) (k : WeakerA l m) : WeakerA (x :: l) (y :: m)
theorem WeakerA.len {l m : List HV} (h : WeakerA l m) : l.length = m.length := by
  induction h with
  | nil => rfl
  | cons _ _ _ ih => simp [ih]
theorem WeakerA.ats {l m : List HV} (h : WeakerA l m) {G : Ghost} {rd : Nat → Option Value} {sz : Nat} : ∀ {o : Nat}, relAts G l rd o sz → relAts G m rd o sz := by
  induction h with
  | nil => exact fun h => h
  | cons h hx _ ih =>
    intro o hr
    simp only [relAts] at hr ⊢
    obtain ⟨⟨cs, h1, h2, h3, h4⟩, h5⟩ := hr
    obtain ⟨k1, k2⟩ := h.at h2 h4
    exact ⟨⟨cs, h1, k1, h3, k2⟩, ih h5⟩
theorem Weaker.list {t : Tok} {sz : Nat} {l m : List HV} (h : WeakerA l m) : Weaker (.list t sz l) (.list .no sz m) := fun G u hu => by
  have hl := h.len
  rcases (rel_list hu).imp id or_comm.1 with ⟨rfl, rfl, _⟩ | ⟨rfl, _, a, rfl⟩ | ⟨b, o, c, rfl, h1, h2, _⟩
  · cases h; exact list_rel_nil trivial
  · cases h; exact list_rel_odd a (fun _ _ => by simp)
  · rw [hl] at h1 ⊢
    exact list_rel h1 (h.ats h2) trivial
end Go.Proofs.Hk

namespace Go.Proofs.Hk
open Go
/-- A row that whoever may append to gets an owner. -/
theorem sem_full_own (c : Cx) {n : Nat} {code : Code} {Q : HExit → Fr → HS → Prop} {a : Fr} {s : HS} {l : List HV} (t sz : Nat) (hl : l ≠ []) (ha : a.get t = some (.sure, .list .full sz l)) (h : ∀ r, r ∉ keys s → SemWp c.P n code Q ((t, .sure, .list (.own r 0) sz l) :: a) ((r, .tok l.length) :: s)) : SemWp c.P n code Q a s :=
  ⟨fun G w ra hs hf => by
    let G' : Ghost := { G with top := fun q => if q = G.lim then some ⟨l.length, 0, 0, 0⟩ else G.top q, lim := G.lim + 1 }
    have le : G.Le G' := ⟨fun _ _ _ e => e, fun _ _ e => e, fun q tp e => by
      have := hs.lt_top e
      simp only [G']
      rw [if_neg (by omega)]
      exact ⟨tp, e, Nat.le_refl _, fun _ => rfl⟩⟩
    have post : Post s G w ((G.lim, .tok l.length) :: s) G' w := by
      refine ⟨⟨hs.kw, ?_, fun r x hx => ?_, fun r hr => ?_, fun b r e => ?_⟩, ⟨le, Nat.le_refl _, fun _ _ _ => ⟨rfl, rfl, fun _ => rfl⟩, fun r tp e _ => ?_, by simp [G'], rfl, rfl, rfl, fun r h0 _ h1 h2 h3 => ⟨h1, by simp only [G']; rw [if_neg (by omega)]; exact h2, h3⟩⟩, fun r hr => ?_⟩
      · simp only [keys, List.map_cons, List.nodup_cons]
        exact ⟨fun hm => by have := hs.lt_key hm; omega, hs.keys⟩
      · rcases List.mem_cons.1 hx with hx | hx
        · cases hx
          exact ⟨⟨l.length, 0, 0, 0⟩, by simp [G'], rfl, fun h => by simp at h⟩
        · exact (hs.holds r x hx).agree hs le (fun b _ => ⟨rfl, rfl, fun _ => rfl⟩) (fun q tp e => by
            have := hs.lt_top e
            simp only [G']
            rw [if_neg (by omega)]; exact e) (fun r h0 h1 h2 h3 => ⟨by simp only [G']; omega, h1, by simp only [G']; rw [if_neg (by omega)]; exact h2, h3⟩)
      · simp only [G'] at hr ⊢
        rw [if_neg (by omega)]
        exact hs.fresh r (by omega)
      · have := hs.role b r e
        simp only [G']; omega
      · have := hs.lt_top e
        simp only [G']
        rw [if_neg (by omega)]; exact e
      · simp only [keys, List.map_cons, List.mem_cons] at hr
        rcases hr with rfl | hr
        · exact .inr (Nat.le_refl _)
        · exact .inl hr
    obtain ⟨h1, h2⟩ := hf.slots t _ _ ha
    have hw := h G.lim (fun hm => by have := hs.lt_key hm; omega)
    refine hw.lift hs post ⟨hf.size, hf.defers, fun t' g x e => ?_⟩
    simp only [Fr.get] at e
    split at e
    · rename_i ht
      have := Nat.eq_of_beq_eq_true ht
      subst this
      cases e
      refine ⟨h1, ?_⟩
      obtain ⟨k, hr⟩ := h2
      refine ⟨k, ?_⟩
      have hr := relC.mono le _ _ hr
      simp only [relC] at hr ⊢
      rcases hr with ⟨e, _⟩ | ⟨b, o, c, e1, e2, e3, e4⟩ | ⟨e, _⟩
      · exact absurd e hl
      · refine .inr (.inl ⟨b, o, c, e1, e2, e3, ⟨l.length, 0, 0, 0⟩, by simp [G'], by show 0 + l.length ≤ l.length; omega, fun _ => .inr ⟨rfl, e4⟩⟩)
      · exact absurd e hl
    · exact ⟨(hf.slots t' g x e).1, (hf.slots t' g x e).2.mono le⟩⟩
/-- A loop whose state is told by four things. -/
theorem sem_loop4 (c : Cx) {n : Nat} {b : Code} {Q : HExit → Fr → HS → Prop} {a : Fr} {s : HS} {β γ δ : Type} (J : Nat → β → γ → δ → Prop) (F : Nat → β → γ → δ → Fr) (S : Nat → β → γ → δ → HS) (μ : Nat → Nat) (i0 : Nat) (b0 : β) (c0 : γ) (d0 : δ) (hJ : J i0 b0 c0 d0) (hF : (F i0 b0 c0 d0).Sub a) (hS : Subp (S i0 b0 c0 d0) s)
    (round : ∀ i x y z, J i x y z → SemWp c.P n b (hround (fun a s => ∃ i' x' y' z', J i' x' y' z' ∧ μ i' < μ i ∧ (F i' x' y' z').Sub a ∧ Subp (S i' x' y' z') s) Q) (F i x y z) (S i x y z)) : SemWp c.P n (.loop b) Q a s :=
  sem_loop c (ι := Nat × β × γ × δ) (fun q => J q.1 q.2.1 q.2.2.1 q.2.2.2) (fun q => F q.1 q.2.1 q.2.2.1 q.2.2.2) (fun q => S q.1 q.2.1 q.2.2.1 q.2.2.2) (fun q => μ q.1) (i0, b0, c0, d0) hJ hF hS fun q hq => (round q.1 q.2.1 q.2.2.1 q.2.2.2 hq).mono fun e a s q => by
    cases e with
    | normal =>
      obtain ⟨⟨i', x', y', z', h⟩⟩ := q
      exact ⟨⟨(i', x', y', z'), h⟩⟩
    | exit j => exact q
    | ret => exact q
    | pan x => exact q
/-- A scope that is left by no jump. -/
theorem sem_scope {c : Cx} {n : Nat} {b : Code} {Q : HExit → Fr → HS → Prop} {a : Fr} {s : HS} (h : SemWp c.P n b Q a s) : SemWp c.P n (.scope b) Q a s :=
  ⟨fun G w ra hs hf => wp_scope_straight (wp_mono (h.out G w ra hs hf) fun e ra' w' ⟨he, a', s', G', q, hr, k⟩ => by
    cases e with
    | goto l => cases he <;> exact hr.elim
    | _ => exact ⟨he, a', s', G', q, hr, k⟩)⟩
/-- A drawn region's append to a row of one's own. -/
theorem TStp.app {c : Cx} {n : Nat} {m t : HS} {dst : Option Tmp} {K : Fr → HS → Prop} {a : Fr} {i : Nat} {y : Res} {φ1 φ2 : Prop} {x : HV} (m' : HS) (h : HsetIs (m ++ t) i y (m' ++ t)) (hk : Side φ1 (Side φ2 (PutD n dst .sure (fun a' => K a' m') a x))) : TStp c n m t dst K (.eff fun L => Side φ1 (Side φ2 (L x (hset (m ++ t) i y)))) a :=
  TStp.eff m' ⟨hk.1, hk.2.1, rfl, h.eq⟩ hk.2.2
end Go.Proofs.Hk

import Derived.Test.YtmgcmljldggllaaH22
set_option linter.unusedSimpArgs false
set_option linter.unusedVariables false
set_option linter.unusedVariables false
namespace Go.Proofs.Hk
open Go

/-! A row that is written no more. -/
theorem relAts_leaves {G : Ghost} {rd : Nat → Option Value} : ∀ {l : List HV} {us : List Value} {o : Nat}, relCs G l us → (∀ j, j < us.length → rd (o + j) = us[j]?) → relAts G l rd o 1
  | [], us, o, _, _ => by simp only [relAts]
  | x :: xs, us, o, h, hr => by
    simp only [relCs] at h
    obtain ⟨u, us', rfl, h1, h2⟩ := h
    simp only [relAts]
    refine ⟨⟨[u], rfl, (by rw [h1.1]; exact fun e => nomatch e), fun j hj => ?_, h1.2⟩, relAts_leaves h2 fun j hj => ?_⟩
    · have := hr j (by simp; omega)
      have e : j = 0 := by omega
      subst e
      simpa using this
    · have := hr (j + 1) (by simp; omega)
      rw [show o + 1 + j = o + (j + 1) from by omega]
      simpa using this
theorem HPick.mem {s s' : HS} {r : Nat} {x : Res} (h : HPick s r x s') : (r, x) ∈ s := h.perm.mem_iff.1 (by simp)
theorem HPick.sub {s s' : HS} {r : Nat} {x : Res} (h : HPick s r x s') {y : Nat × Res} (hy : y ∈ s') : y ∈ s := h.perm.mem_iff.1 (by simp [hy])
theorem HPick.nodup {s s' : HS} {r : Nat} {x : Res} (h : HPick s r x s') (hn : (keys s).Nodup) : (keys s').Nodup ∧ r ∉ keys s' := by
  have hp : (((r, x) :: s').map (·.1)).Perm (keys s) := h.perm.map _
  have := hp.nodup_iff.2 hn
  simp only [List.map_cons, List.nodup_cons] at this
  exact ⟨this.2, this.1⟩

theorem sem_freeze (c : Cx) {n : Nat} {code : Code} {Q : HExit → Fr → HS → Prop} {a : Fr} {s s' : HS} (t r : Nat) {off len cap : Nat} {cs : List HV} {ty : TypeId} (ha : a.get t = some (.sure, .arr r off len cap 1)) (hp : HPick s r (.cells cs ty) s') (h1 : off + len ≤ cs.length) (hc : len ≤ cap)
    (h : SemWp c.P n code Q ((t, .sure, .list .no 1 ((cs.drop off).take len)) :: a) s') : SemWp c.P n code Q a s :=
  ⟨fun G w ra hs hf => by
    obtain ⟨b, vs, e, ro, hh, hcs, hK⟩ := hs.holds r _ hp.mem
    obtain ⟨hnd, hnr⟩ := hp.nodup hs.keys
    let G' : Ghost := { G with K := fun b' o => if b' = b then vs[o]? else G.K b' o }
    have le : G.Le G' := ⟨fun b' o v e' => by
      simp only [G']
      split
      · rename_i hb; subst hb; rw [hK] at e'; cases e'
      · exact e', fun _ _ e => e, fun q tp e => ⟨tp, e, Nat.le_refl _, fun _ => rfl⟩⟩
    have other : ∀ q b', q ∈ keys s' → G.role b' = some q → b' ≠ b := fun q b' hq hb' e' => by
      subst e'
      rw [ro] at hb'
      cases hb'
      exact hnr hq
    have post : Post s G w s' G' w := by
      refine ⟨⟨fun b' o v e' => ?_, hnd, fun q x hx => ?_, hs.fresh, hs.role⟩, ⟨le, Nat.le_refl _, fun b' hb' hr => ⟨rfl, rfl, fun o => ?_⟩, fun _ _ e _ => e, Nat.le_refl _, rfl, rfl, rfl, fun _ _ _ h1 h2 h3 => ⟨h1, h2, h3⟩⟩, fun q hq => .inl ?_⟩
      · simp only [G'] at e'
        split at e'
        · rename_i hb; subst hb
          simp only [World.cell?, hh, Option.isSome_none, Bool.false_eq_true, if_false]; exact e'
        · exact hs.kw b' o v e'
      · have hq : q ∈ keys s' := List.mem_map.2 ⟨_, hx, rfl⟩
        have ho := hs.holds q x (hp.sub hx)
        cases x with
        | cells cs t' =>
          obtain ⟨b', us, e1, ro', hh', hc', hK'⟩ := ho
          exact ⟨b', us, e1, ro', hh', relCs.mono le _ _ hc', fun o => by simp only [G']; rw [if_neg (other q b' hq ro')]; exact hK' o⟩
        | map es =>
          obtain ⟨b', ents, cl, e1, ro', hh', hc'⟩ := ho
          exact ⟨b', ents, cl, e1, ro', hh', relMap.mono le _ _ hc'⟩
        | tok m =>
          obtain ⟨tp, e1, hn, hq'⟩ := ho
          refine ⟨tp, e1, hn, fun hlt' => ?_⟩
          obtain ⟨ro', us, t', hh', hc', hK'⟩ := hq' hlt'
          exact ⟨ro', us, t', hh', hc', fun o ho => by simp only [G']; rw [if_neg (other q _ hq ro')]; exact hK' o ho⟩
        | void => exact ho
      · simp only [G']
        split
        · rename_i hb; subst hb
          exact absurd (List.mem_map.2 ⟨_, hp.mem, rfl⟩) (hr r ro)
        · rfl
      · obtain ⟨y, hy, rfl⟩ := List.mem_map.1 hq
        exact List.mem_map.2 ⟨y, hp.sub hy, rfl⟩
    obtain ⟨q1, q2⟩ := hf.slots t _ _ ha
    obtain ⟨b', e', hu⟩ := rel_arr q2
    rw [e] at e'
    cases e'
    refine h.lift hs post ⟨hf.size, hf.defers, fun t' g x e' => ?_⟩
    simp only [Fr.get] at e'
    split at e'
    · rename_i ht
      have := Nat.eq_of_beq_eq_true ht
      subst this
      cases e'
      refine ⟨q1, ?_⟩
      show rel G' _ _
      rw [hu]
      have hl := relCs_length hcs
      have hlen : ((cs.drop off).take len).length = len := by simp; omega
      have key : rel G' (.list .no 1 ((cs.drop off).take len)) (.slice (some ⟨b, off, none⟩) ((cs.drop off).take len).length cap) := by
        refine list_rel (by omega) (relAts_leaves (relCs.mono le _ _ (relCs_take len (relCs_drop off hcs))) fun j hj => ?_) trivial
        simp only [List.length_take, List.length_drop] at hj
        simp only [G', if_true]
        rw [List.getElem?_take, if_pos (by omega), List.getElem?_drop]
        simp
      rwa [hlen] at key
    · exact ⟨(hf.slots t' g x e').1, (hf.slots t' g x e').2.mono le⟩⟩
end Go.Proofs.Hk

import Derived.Test.YtmgcmljldggllaaH13b
set_option linter.unusedSimpArgs false
set_option linter.unusedVariables false
namespace Go.Proofs.Hk
open Go

def valOf : HV → Value
  | .v x => x
  | _ => undef
theorem isU8_eq {x : HV} (h : isU8 x = true) : ∃ n, x = .v (.int .u8 n) := by
  cases x with
  | v y =>
    cases y with
    | int k n => cases k <;> first | exact ⟨n, rfl⟩ | cases h
    | _ => cases h
  | _ => cases h
theorem relAts_u8 {G : Ghost} {rd : Nat → Option Value} : ∀ {l : List HV} {o : Nat}, relAts G l rd o 1 → l.all isU8 = true → ∀ j, j < l.length → rd (o + j) = (l.map valOf)[j]?
  | [], o, _, _, j, hj => by simp at hj
  | x :: xs, o, h, hu, j, hj => by
    simp only [relAts] at h
    obtain ⟨⟨cs, hc, _, hr, hx⟩, h2⟩ := h
    simp only [List.all_cons, Bool.and_eq_true] at hu
    obtain ⟨n, rfl⟩ := isU8_eq hu.1
    cases j with
    | zero =>
      simp only [relC] at hx
      have := hr 0 (by omega)
      rw [hx.1] at this
      simpa [valOf] using this
    | succ j =>
      have := relAts_u8 h2 hu.2 j (by simpa using hj)
      rw [show o + 1 + j = o + (j + 1) from by omega] at this
      simpa using this
theorem relCs_u8 {G : Ghost} : ∀ {l : List HV} {us : List Value}, relCs G l us → l.all isU8 = true → us = l.map valOf
  | [], us, h, _ => by simpa [relCs] using h
  | x :: xs, us, h, hu => by
    simp only [relCs] at h
    obtain ⟨u, us', rfl, h1, h2⟩ := h
    simp only [List.all_cons, Bool.and_eq_true] at hu
    obtain ⟨n, rfl⟩ := isU8_eq hu.1
    have := leaf_v h1.2
    subst this
    rw [relCs_u8 h2 hu.2]
    rfl
theorem run_pushes {P : Program} {w : World} (f : Value → ByteArray → Sem (ForInStep ByteArray)) (hf : ∀ n s, f (.int .u8 n) s = pure (ForInStep.yield (s.push (UInt8.ofNat n.toNat)))) : ∀ (l : List HV) (s : ByteArray), l.all isU8 = true →
    (forIn (l.map valOf) s f : Sem ByteArray).run P w = .ok ⟨s.data ++ (l.map byteOf).toArray⟩ w
  | [], s, _ => by simp [Sem.run_pure]
  | x :: xs, s, hu => by
    simp only [List.all_cons, Bool.and_eq_true] at hu
    obtain ⟨n, rfl⟩ := isU8_eq hu.1
    simp only [List.map_cons, valOf, List.forIn_cons, hf, pure_bind]
    rw [run_pushes f hf xs _ hu.2]
    simp [byteOf, ByteArray.push]
theorem run_bytesStr {P : Program} {w : World} {b o c : Nat} {l : List HV} (hu : l.all isU8 = true) (h : ∀ j, j < l.length → w.cell? ⟨b, o + j, none⟩ = (l.map valOf)[j]?) :
    (Conv.bytesToString (.slice (some ⟨b, o, none⟩) l.length c)).run P w = .ok (.string ⟨(l.map byteOf).toArray⟩) w := by
  have hl := run_cells (P := P) (w := w) (b := b) (o := o) (xs := l.map valOf) (by simpa using h)
  rw [List.length_map] at hl
  simp only [Conv.bytesToString, Sem.run_bind, hl, Result.andThen_ok]
  simp only [List.forIn_toArray]
  rw [run_pushes _ (fun _ _ => rfl) l _ hu]
  simp [Result.andThen_ok, Sem.run_pure]

theorem isBytes_ok {c : Cx} {t : TypeId} {w : World} (h : isBytes c t = true) : ∃ e, (underlying t).run c.P w = .ok (.slice e) w ∧ (underlying e).run c.P w = .ok (.int .u8) w := by
  unfold isBytes at h
  split at h
  · cases h
  · rename_i e he
    split at h
    · rename_i hd
      refine ⟨e, ?_, (c.ty_ok e _ hd).int rfl⟩
      unfold sliceElemT at he
      split at he
      · rename_i e' hd'
        cases he
        exact (c.ty_ok t _ hd').slice rfl
      · cases he
    · cases h
theorem bytesStr_ok (c : Cx) {s : HS} {G : Ghost} {w : World} (hs : SRel G s w) {src dst : TypeId} (hsrc : isBytes c src = true) (hdst : (underlying dst).run c.P w = .ok .string w) {x : HV} {u : Value} (hx : rel G x u) :
    ResOK c.P s G w ((do pure (Next.value (← convert src dst u)) : Sem Next).run c.P w) (hbytesStr x) := by
  obtain ⟨e, h1, h2⟩ := isBytes_ok (w := w) hsrc
  have conv : ∀ u, (∃ a n m, u = .slice a n m) → ∀ v, (Conv.bytesToString u).run c.P w = .ok v w → (do pure (Next.value (← convert src dst u)) : Sem Next).run c.P w = .ok (.value v) w := by
    rintro u ⟨a, n, m, rfl⟩ v hv
    have : (convert src dst (.slice a n m)).run c.P w = .ok v w := by
      cases a <;> simp only [convert, Sem.run_bind, h1, hdst, h2, Result.andThen_ok, hv]
    simp only [Sem.run_bind, this, Result.andThen_ok, Sem.run_pure]
  unfold hbytesStr
  split
  · have := rel_v_eq hx
    subst this
    exact ⟨_, w, G, .inl (conv _ ⟨_, _, _, rfl⟩ (.string .empty) (by simp [Conv.bytesToString, Sem.run_pure])), rel_v G, .refl hs⟩
  · rename_i tk sz l
    rintro ⟨rfl, hu⟩
    rcases rel_list hx with ⟨rfl, rfl, _⟩ | ⟨b, o, cp, rfl, hcp, ha, _⟩
    · exact ⟨_, w, G, .inl (conv _ ⟨_, _, _, rfl⟩ (.string .empty) (by simp [Conv.bytesToString, Sem.run_pure])), rel_v G, .refl hs⟩
    · have hr := relAts_u8 ha hu
      refine ⟨_, w, G, .inl (conv _ ⟨_, _, _, rfl⟩ _ (run_bytesStr hu fun j hj => ?_)), rel_v G, .refl hs⟩
      have := hr j hj
      rw [List.getElem?_eq_getElem (by simpa using hj)] at this ⊢
      exact hs.kw _ _ _ this
  · rename_i r off len cap sz
    intro rx hg
    obtain ⟨b, hb, rfl⟩ := rel_arr hx
    cases rx with
    | cells cs t =>
      rintro ⟨hle, hu⟩
      have hh := hs.holds r _ (hget_mem hg)
      obtain ⟨b', vs, e1, _, hhp, hc, _⟩ := hh
      rw [hb] at e1
      cases e1
      have hlen : ((cs.drop off).take len).length = len := by simp; omega
      have := relCs_length hc
      have hus : (vs.toList.drop off).take len = ((cs.drop off).take len).map valOf := relCs_u8 (relCs_take len (relCs_drop off hc)) hu
      have run := run_bytesStr (P := c.P) (w := w) (b := b) (o := off) (c := cap) hu fun j hj => by
        rw [← hus]
        rw [hlen] at hj
        rw [List.getElem?_take, if_pos hj, List.getElem?_drop]
        simp only [World.cell?, hhp, Option.isSome_none, Bool.false_eq_true, if_false]
        simp
      rw [hlen] at run
      exact ⟨_, w, G, .inl (conv _ ⟨_, _, _, rfl⟩ _ run), rel_v G, .refl hs⟩
    | map _ => trivial
    | tok _ => trivial
  · trivial
end Go.Proofs.Hk

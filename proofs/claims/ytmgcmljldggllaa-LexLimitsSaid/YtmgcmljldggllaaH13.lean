import Derived.Test.YtmgcmljldggllaaH12
set_option linter.unusedSimpArgs false
set_option linter.unusedVariables false
namespace Go.Proofs.Hk
open Go

theorem run_sliceBound {P : Program} {w : World} {k : IntKind} {n : Int} {y : Nat} {code : BoundsCode} (h0 : 0 ≤ n) (h1 : n.toNat ≤ y) : (Instr.sliceBound (.int k n) y code).run P w = .ok n.toNat w := by
  simp only [Instr.sliceBound, asIntOf, pure_bind]
  rw [if_pos ⟨h0, by omega⟩]
  rfl

def BoundRun (P : Program) (w : World) (u : Option Value) (dflt n : Nat) : Prop :=
  match u with
  | none => n = dflt
  | some v => ∀ y code, n ≤ y → (Instr.sliceBound v y code).run P w = .ok n w
/-- What a bound comes to. -/
theorem hbound_ok {P : Program} {s : HS} {G : Ghost} {w : World} {r : Result Next} {x : Option HV} {u : Option Value} {dflt : Nat} {k : Prop → Nat → OpRes}
    (hx : match x, u with | none, none => True | some v, some u => rel G v u | _, _ => False)
    (h : ∀ (p : Prop) (n : Nat), (p → BoundRun P w u dflt n) → ResOK P s G w r (k p n)) : ResOK P s G w r (hbound x dflt k) := by
  unfold hbound
  split
  · cases u with
    | none => exact h _ _ fun _ => rfl
    | some u => exact hx.elim
  · rename_i kd n
    cases u with
    | none => exact hx.elim
    | some u =>
      have := rel_v_eq hx
      subst this
      exact h _ _ fun h0 y code hy => run_sliceBound h0 hy
  · trivial

theorem tokCut_rel {G : Ghost} {t : Tok} {sz n b o c : Nat} (h : tokRel G t sz n b o c) (hn : n ≤ c) {lo hi : Nat} (hlo : lo ≤ hi) (hhi : hi ≤ n) {whole most : Bool} {m : Nat} (hw : whole = true → hi = n) (hm : most = true → m = hi) (hm' : most = false → m = c) {o' : Nat} (ho : o' = if m = lo then o else o + lo * sz) :
    tokRel G (t.cut lo whole most) sz (hi - lo) b o' (m - lo) := by
  cases most with
  | true =>
    show m - lo = hi - lo
    rw [hm rfl]
  | false =>
    have hmc := hm' rfl
    subst hmc
    cases t with
    | no => trivial
    | full =>
      cases whole with
      | false => trivial
      | true =>
        show m - lo = hi - lo
        have : m = n := h
        rw [hw rfl, this]
    | own i st =>
      obtain ⟨tp, e, h1, h2⟩ := h
      refine ⟨tp, e, by omega, fun hq => ?_⟩
      have hin : hi = n := by omega
      have h2 := h2 (by omega)
      subst hin
      rcases h2 with ⟨q1, q2, q3⟩ | ⟨q1, q2⟩
      · by_cases hml : m = lo
        · have : hi = lo := by omega
          have hmh : m = hi := by omega
          refine .inr ⟨?_, by omega⟩
          rw [q2, q3, hmh]
        · rw [if_neg hml] at ho
          subst ho
          refine .inl ⟨q1, ?_, ?_⟩
          · rw [q2, Nat.add_assoc, ← Nat.add_mul]; congr 2; omega
          · rw [q3, Nat.add_assoc, ← Nat.add_mul]; congr 2; omega
      · exact .inr ⟨q1, by omega⟩

theorem tokCut_nil {G : Ghost} {t : Tok} (h : tokNil G t) {whole most : Bool} : tokNil G (t.cut 0 whole most) := by
  cases most with
  | true => trivial
  | false =>
    cases t with
    | no => trivial
    | full => cases whole <;> trivial
    | own i st => exact h

theorem relAts_cut {G : Ghost} {sz : Nat} {rd : Nat → Option Value} {l : List HV} {o lo hi m : Nat} (h : relAts G l rd o sz) (hlo : lo ≤ hi) (hhi : hi ≤ l.length) (hm : hi ≤ m) : relAts G ((l.take hi).drop lo) rd (if m = lo then o else o + lo * sz) sz := by
  split
  · have : hi = lo := by omega
    subst this
    rw [List.drop_of_length_le (by simp; omega)]
    simp only [relAts]
  · exact relAts_drop lo (relAts_take hi h)

/-- A row, cut. -/
theorem list_cut {P : Program} {G : Ghost} {w : World} {t : TypeId} {d : TyD} {e : TypeId} (hu : ∀ w, (underlying t).run P w = .ok (.slice e) w) (hd : TyOK P e d) {tk : Tok} {xs : List HV} {u : Value} (hx : rel G (.list tk d.size xs) u)
    {ul uh um : Option Value} {l h : Nat} (hl : l ≤ h) (hh : h ≤ xs.length) (whole most : Bool) (hw : whole = true → h = xs.length)
    (hb : ∀ cp, xs.length ≤ cp → ∃ m, (Instr.sliceBounds true xs.length cp ul uh um).run P w = .ok (l, h, m) w ∧ h ≤ m ∧ (most = true → m = h) ∧ (most = false → m = cp)) :
    ∃ v, (Instr.slice t u ul uh um).run P w = .ok v w ∧ rel G (.list (tk.cut l whole most) d.size ((xs.take h).drop l)) v := by
  have hlen : ((xs.take h).drop l).length = h - l := by simp; omega
  rcases rel_list hx with ⟨rfl, rfl, htn⟩ | ⟨b, o, cp, rfl, hcp, ha, htok⟩
  · obtain ⟨m, h1, h2, h3, h4⟩ := hb 0 (Nat.le_refl _)
    have hh0 : h = 0 := by simpa using hh
    have hl0 : l = 0 := by omega
    subst hh0 hl0
    have hm0 : m = 0 := by
      cases most with
      | false => exact h4 rfl
      | true => exact h3 rfl
    subst hm0
    refine ⟨.slice none 0 0, ?_, ?_⟩
    · simp only [List.length_nil] at h1
      simp [Instr.slice, hu, h1, hd.sizeOf]
    · simpa using list_rel_nil (tokCut_nil htn)
  · obtain ⟨m, h1, h2, h3, h4⟩ := hb cp hcp
    refine ⟨.slice (some ⟨b, if m = l then o else o + l * d.size, none⟩) (h - l) (m - l), ?_, ?_⟩
    · simp only [Instr.slice, Sem.run_bind, hu, Result.andThen_ok, h1, hd.sizeOf, Sem.run_pure]
      split <;> simp [add_plain]
    · have := list_rel (t := tk.cut l whole most) (c := m - l) (by rw [hlen]; omega) (relAts_cut ha hl hh h2) (by rw [hlen]; exact tokCut_rel htok hcp hl hh hw h3 h4 rfl)
      rwa [hlen] at this

theorem slice_ok (c : Cx) {s : HS} {G : Ghost} {w : World} (hs : SRel G s w) (t : TypeId) {x : HV} {u : Value} {lo hi mx : Option HV} {ul uh um : Option Value} (hx : rel G x u)
    (hlo : match lo, ul with | none, none => True | some v, some u => rel G v u | _, _ => False) (hhi : match hi, uh with | none, none => True | some v, some u => rel G v u | _, _ => False) (hmx : match mx, um with | none, none => True | some v, some u => rel G v u | _, _ => False) :
    ResOK c.P s G w ((do pure (Next.value (← Instr.sliceAt t u ul uh um)) : Sem Next).run c.P w) (hslice c t x lo hi mx) := by
  have fin : ∀ {y : HV} {v : Value} {du : TypeDesc}, (∀ w, (underlying t).run c.P w = .ok du w) → (du = .string ∨ ∃ e', du = .slice e') → (Instr.slice t u ul uh um).run c.P w = .ok v w → rel G y v → Gives s G w ((do pure (Next.value (← Instr.sliceAt t u ul uh um)) : Sem Next).run c.P w) y s := fun {y v du} hu hdu h1 h2 =>
    ⟨_, w, G, .inl (by
      have hat : (Instr.sliceAt t u ul uh um).run c.P w = (Instr.slice t u ul uh um).run c.P w := by
        unfold Instr.sliceAt
        rw [Sem.run_bind, hu w, Result.andThen_ok]
        rcases hdu with rfl | ⟨e', rfl⟩ <;> rfl
      rw [Sem.run_bind, hat, h1]; rfl), h2, .refl hs⟩
  unfold hslice
  split
  · rename_i size bytes ag z hd
    have hu := fun w => (c.ty_ok t _ hd).string (w := w) rfl
    split
    · rename_i b
      have := rel_v_eq hx
      subst this
      cases um with
      | some _ => exact hmx.elim
      | none =>
        refine hbound_ok hhi fun p2 h eh => hbound_ok hlo fun p1 l el => ?_
        rintro ⟨h1, h2, h3, h4⟩
        refine fin (y := .v (.string (b.extract l h))) hu (.inl rfl) ?_ (rel_v G)
        have hb : (Instr.sliceBounds false b.size b.size ul uh none).run c.P w = .ok (l, h, b.size) w := by
          have el := el h1
          have eh := eh h2
          cases ul <;> cases uh <;> simp only [BoundRun] at el eh <;> (try subst el) <;> (try subst eh) <;> simp [Instr.sliceBounds, *]
        simp [Instr.slice, hu, hb]
    · trivial
  · rename_i size bytes ag z e hd
    have hu := fun w => (c.ty_ok t _ hd).slice (w := w) rfl
    split
    · trivial
    · rename_i d he
      have hte := c.ty_ok e d he
      split
      · rename_i tk sz xs
        split
        · trivial
        · rename_i hz
          have hz := Nat.eq_of_beq_eq_true hz
          subst hz
          split
          · cases um with
            | some _ => exact hmx.elim
            | none =>
              refine hbound_ok hlo fun p1 l el => ?_
              split
              · cases uh with
                | some _ => exact hhi.elim
                | none =>
                  rintro ⟨h1, h2⟩
                  obtain ⟨v, v1, v2⟩ := list_cut (w := w) (ul := ul) (uh := none) (um := none) hu hte hx h2 (Nat.le_refl _) true false (fun _ => rfl) (fun cp hcp => by
                    refine ⟨cp, ?_, hcp, by simp, fun _ => rfl⟩
                    have el := el h1
                    cases ul <;> simp only [BoundRun] at el <;> simp [Instr.sliceBounds, el, h2])
                  rw [List.take_length] at v2
                  exact fin hu (.inr ⟨e, rfl⟩) v1 v2
              · rename_i hi'
                cases uh with
                | none => exact hhi.elim
                | some uh =>
                  refine hbound_ok (u := some uh) hhi fun p2 h eh => ?_
                  rintro ⟨h1, h2, h3, h4⟩
                  obtain ⟨v, v1, v2⟩ := list_cut (w := w) (ul := ul) (uh := some uh) (um := none) hu hte hx h3 h4 false false (fun h => by cases h) (fun cp hcp => by
                    refine ⟨cp, ?_, by omega, by simp, fun _ => rfl⟩
                    have hq : h ≤ cp := by omega
                    have el := el h1
                    have eh := eh h2
                    simp only [BoundRun] at eh
                    cases ul <;> simp only [BoundRun] at el <;> simp [Instr.sliceBounds, el, eh, h3, hq])
                  exact fin hu (.inr ⟨e, rfl⟩) v1 v2
          · rename_i mx'
            split
            · trivial
            · rename_i hi'
              cases um with
              | none => exact hmx.elim
              | some um =>
                cases uh with
                | none => exact hhi.elim
                | some uh =>
                  refine hbound_ok (u := some um) hmx fun p3 m em => hbound_ok (u := some uh) hhi fun p2 h eh => hbound_ok hlo fun p1 l el => ?_
                  rintro ⟨h1, h2, h3, h4, h5, h6⟩
                  obtain ⟨v, v1, v2⟩ := list_cut (w := w) (ul := ul) (uh := some uh) (um := some um) hu hte hx h4 h6 false true (fun h => by cases h) (fun cp hcp => by
                    refine ⟨m, ?_, by omega, fun _ => h5, by simp⟩
                    have hq : m ≤ cp := by omega
                    have hq2 : h ≤ m := by omega
                    have el := el h1
                    have eh := eh h2
                    have em := em h3
                    simp only [BoundRun] at eh em
                    cases ul <;> simp only [BoundRun] at el <;> simp [Instr.sliceBounds, el, eh, em, h4, hq, hq2])
                  exact fin hu (.inr ⟨e, rfl⟩) v1 v2
      · rename_i r off len cap sz
        split
        · split
          · trivial
          · rename_i hz
            have hz := Nat.eq_of_beq_eq_true hz
            subst hz
            obtain ⟨b, ho, rfl⟩ := rel_arr hx
            cases um with
            | some _ => exact hmx.elim
            | none =>
              refine hbound_ok hhi fun p2 h eh => hbound_ok hlo fun p1 l el => ?_
              rintro ⟨h1, h2, h3, h4, h5, h6⟩
              refine fin (y := .arr r (off + l * d.size) (h - l) (cap - l) d.size) hu (.inr ⟨e, rfl⟩) (v := .slice (some ⟨b, off + l * d.size, none⟩) (h - l) (cap - l)) ?_ (arr_rel ho)
              have hb : (Instr.sliceBounds true len cap ul uh none).run c.P w = .ok (l, h, cap) w := by
                have hq : h ≤ cap := by omega
                have el := el h1
                have eh := eh h2
                cases ul <;> cases uh <;> simp only [BoundRun] at el eh <;> (try subst el) <;> (try subst eh) <;> simp [Instr.sliceBounds, *]
              have hne : ¬ cap = l := by omega
              simp [Instr.slice, hu, hb, hte.sizeOf, hne, add_plain]
        · trivial
      · trivial
  · trivial

end Go.Proofs.Hk

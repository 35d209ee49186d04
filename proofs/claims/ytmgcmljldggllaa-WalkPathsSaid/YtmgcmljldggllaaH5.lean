import Derived.Laws.CopyRow
import Derived.Laws.AppendOwn
import Derived.Test.YtmgcmljldggllaaH4
set_option linter.unusedSimpArgs false
set_option linter.unusedVariables false
namespace Go.Proofs.Hk
open Go

theorem relCs_length {G : Ghost} : ∀ {l : List HV} {us : List Value}, relCs G l us → us.length = l.length
  | [], us, h => by simp only [relCs] at h; simp [h]
  | x :: xs, us, h => by
    simp only [relCs] at h
    obtain ⟨u, us', rfl, _, h⟩ := h
    simp [relCs_length h]
theorem relCs_get {G : Ghost} : ∀ {l : List HV} {us : List Value}, relCs G l us → ∀ (i : Nat) (x : HV), l[i]? = some x → ∃ u, us[i]? = some u ∧ x.kd = .one ∧ relC G x [u]
  | [], us, h, i, x, e => by simp at e
  | y :: ys, us, h, i, x, e => by
    simp only [relCs] at h
    obtain ⟨u, us', rfl, ⟨h0, h1⟩, h2⟩ := h
    cases i with
    | zero => simp only [List.getElem?_cons_zero, Option.some.injEq] at e; subst e; exact ⟨u, by simp, h0, h1⟩
    | succ i => simpa using relCs_get h2 i x (by simpa using e)
theorem relCs_one {G : Ghost} : ∀ {l : List HV} {us : List Value}, relCs G l us → ∀ u ∈ us, vkd u = .one
  | [], us, h, u, hu => by simp only [relCs] at h; simp [h] at hu
  | x :: xs, us, h, u, hu => by
    simp only [relCs] at h
    obtain ⟨v, us', rfl, ⟨h0, h1⟩, h2⟩ := h
    rcases List.mem_cons.1 hu with rfl | hu
    · obtain ⟨u', e, hk⟩ := relC_one h1 h0
      simp only [List.cons.injEq, and_true] at e
      rw [e]; exact hk
    · exact relCs_one h2 u hu
theorem relCs_append {G : Ghost} : ∀ {l m : List HV} {us vs : List Value}, relCs G l us → relCs G m vs → relCs G (l ++ m) (us ++ vs)
  | [], m, us, vs, h, k => by simp only [relCs] at h; subst h; exact k
  | x :: xs, m, us, vs, h, k => by
    simp only [relCs] at h
    obtain ⟨u, us', rfl, h1, h2⟩ := h
    simp only [List.cons_append, relCs]
    exact ⟨u, us' ++ vs, rfl, h1, relCs_append h2 k⟩
theorem relCs_take {G : Ghost} : ∀ {l : List HV} {us : List Value} (k : Nat), relCs G l us → relCs G (l.take k) (us.take k)
  | [], us, k, h => by simp only [relCs] at h; subst h; simp [relCs]
  | x :: xs, us, 0, h => by simp [relCs]
  | x :: xs, us, k + 1, h => by
    simp only [relCs] at h
    obtain ⟨u, us', rfl, h1, h2⟩ := h
    simp only [List.take_succ_cons, relCs]
    exact ⟨u, _, rfl, h1, relCs_take k h2⟩
theorem relCs_drop {G : Ghost} : ∀ {l : List HV} {us : List Value} (k : Nat), relCs G l us → relCs G (l.drop k) (us.drop k)
  | [], us, k, h => by simp only [relCs] at h; subst h; simp [relCs]
  | x :: xs, us, 0, h => by simpa using h
  | x :: xs, us, k + 1, h => by
    simp only [relCs] at h
    obtain ⟨u, us', rfl, h1, h2⟩ := h
    simpa using relCs_drop k h2
/-- The cells of a value that is no tuple. -/
theorem rel_cells {G : Ghost} {x : HV} {u : Value} (h : rel G x u) (hx : x.kd ≠ .tup) : relCs G x.cells u.cells.toList := by
  obtain ⟨h1, h2⟩ := h
  by_cases ho : x.kd = .one
  · obtain ⟨v, e, hv⟩ := relC_one h2 ho
    have : x.cells = [x] := by cases x <;> first | rfl | cases ho
    rw [this, e]
    simp only [relCs]
    exact ⟨v, [], rfl, ⟨ho, by rw [← e]; exact h2⟩, rfl⟩
  · cases x <;> first | exact absurd rfl ho | exact absurd rfl hx | skip
    simpa only [relC, HV.cells] using h2
theorem rel_agg {G : Ghost} {l : List HV} {us : List Value} (h : relCs G l us) : rel G (.agg l) (.agg us.toArray) := ⟨rfl, by simpa [relC, Value.cells] using h⟩
theorem rel_agg_inv {G : Ghost} {l : List HV} {u : Value} (h : rel G (.agg l) u) : ∃ us : Array Value, u = .agg us ∧ relCs G l us.toList := by
  obtain ⟨h1, h2⟩ := h
  cases u <;> first | cases h1 | skip
  rename_i cs
  exact ⟨cs, rfl, by simpa [relC, Value.cells] using h2⟩

/-! Types. -/
section
variable {P : Program} {t : TypeId} {d : TyD} {w : World}
theorem TyOK.isAgg (h : TyOK P t d) : (isAgg t).run P w = .ok d.isAgg w := by
  obtain ⟨i, u, hi, hu, h1, h2, h3, h4, h5, _⟩ := h
  unfold Go.isAgg
  rw [Sem.run_bind, run_underlying hu, Result.andThen_ok]
  rw [← h4]
  cases u <;> rfl
theorem TyOK.sizeOf (h : TyOK P t d) : (sizeOf t).run P w = .ok d.size w := by
  obtain ⟨i, u, hi, hu, h1, _⟩ := h
  rw [run_sizeOf _ hi]
  simp [Program.cellsOf, hi, h1]
theorem TyOK.info (h : TyOK P t d) : ∃ i, (typeInfo t).run P w = .ok i w ∧ i.size = d.size ∧ i.bytes = d.bytes ∧ i.zero = some d.zero := by
  obtain ⟨i, u, hi, hu, h1, h2, h3, _⟩ := h
  exact ⟨i, run_typeInfo _ hi, h1, h2, h3⟩
theorem TyOK.zero (h : TyOK P t d) : (zeroValue t).run P w = .ok d.zero w := by
  obtain ⟨i, hi, _, _, hz⟩ := h.info (w := w)
  unfold zeroValue
  rw [Sem.run_bind, hi, Result.andThen_ok]
  simp [hz]
theorem TyOK.zsize (h : TyOK P t d) : d.zero.cells.size = d.size := by
  obtain ⟨i, u, hi, hu, h1, h2, h3, h4, h5, h6⟩ := h
  exact h6
theorem TyOK.und (h : TyOK P t d) : ∃ u, (underlying t).run P w = .ok u w ∧ shOK P u d.sh ∧ descAgg u = d.isAgg := by
  obtain ⟨i, u, hi, hu, h1, h2, h3, h4, h5, _⟩ := h
  exact ⟨u, run_underlying hu w, h5, h4⟩
theorem TyOK.slice {e : TypeId} (h : TyOK P t d) (hs : d.sh = .slice e) : (underlying t).run P w = .ok (.slice e) w := by
  obtain ⟨u, hu, hsh, _⟩ := h.und (w := w)
  rw [hs] at hsh
  cases u <;> simp only [shOK] at hsh
  subst hsh
  exact hu
theorem TyOK.string (h : TyOK P t d) (hs : d.sh = .string) : (underlying t).run P w = .ok .string w := by
  obtain ⟨u, hu, hsh, _⟩ := h.und (w := w)
  rw [hs] at hsh
  cases u <;> simp only [shOK] at hsh
  exact hu
theorem TyOK.int {k : IntKind} (h : TyOK P t d) (hs : d.sh = .int k) : (underlying t).run P w = .ok (.int k) w := by
  obtain ⟨u, hu, hsh, _⟩ := h.und (w := w)
  rw [hs] at hsh
  cases u <;> simp only [shOK] at hsh
  subst hsh
  exact hu
theorem TyOK.struct {l : List (Nat × Nat × Bool)} {eq : Bool} (h : TyOK P t d) (hs : d.sh = .struct l eq) : ∃ fs, (underlying t).run P w = .ok (.struct fs) w ∧ fieldsOK P fs.toList l ∧ (eq = true → fieldsEq P fs.toList = true) := by
  obtain ⟨u, hu, hsh, _⟩ := h.und (w := w)
  rw [hs] at hsh
  cases u <;> simp only [shOK] at hsh
  exact ⟨_, hu, hsh⟩
end
theorem fieldsOK_get {P : Program} : ∀ {fs : List Field} {l : List (Nat × Nat × Bool)}, fieldsOK P fs l → ∀ (i o s : Nat) (b : Bool), l[i]? = some (o, s, b) →
    ∃ f : Field, fs[i]? = some f ∧ f.offset = o ∧ ∀ w, (sizeOf f.type).run P w = .ok s w ∧ (isAgg f.type).run P w = .ok b w
  | [], l, h, i, o, s, b, e => by simp only [fieldsOK] at h; subst h; simp at e
  | f :: fs, l, h, i, o, s, b, e => by
    simp only [fieldsOK] at h
    obtain ⟨o', s', b', l', rfl, ho, ⟨inf, u, hi, hu, hs, hb⟩, h2⟩ := h
    cases i with
    | zero =>
      simp only [List.getElem?_cons_zero, Option.some.injEq, Prod.mk.injEq] at e
      obtain ⟨rfl, rfl, rfl⟩ := e
      refine ⟨f, by simp, ho, fun w => ⟨by rw [run_sizeOf _ hi]; simp [Program.cellsOf, hi, hs], ?_⟩⟩
      unfold Go.isAgg
      rw [Sem.run_bind, run_underlying hu, Result.andThen_ok, ← hb]
      cases u <;> rfl
    | succ i => simpa using fieldsOK_get h2 i o s b (by simpa using e)

theorem add_plain (b o j : Nat) : (⟨b, o, none⟩ : Addr).add j = ⟨b, o + j, none⟩ := by unfold Addr.add; split <;> simp_all

/-! Loads. -/
theorem run_cells {P : Program} {w : World} {b o : Nat} {xs : List Value} (h : ∀ j, j < xs.length → w.cell? ⟨b, o + j, none⟩ = xs[j]?) : (loadCells ⟨b, o, none⟩ xs.length).run P w = .ok xs.toArray w :=
  run_loadCells_list w ⟨b, o, none⟩ xs fun j v e => by
    rw [add_plain, h j (List.getElem?_eq_some_iff.1 e).1, e]

theorem run_loadVar_agg {P : Program} {t : TypeId} {d : TyD} {w : World} {b o : Nat} {xs : List Value} (ht : TyOK P t d) (ha : d.isAgg = true) (hl : xs.length = d.size) (h : ∀ j, j < xs.length → w.cell? ⟨b, o + j, none⟩ = xs[j]?) :
    (loadVar t ⟨b, o, none⟩).run P w = .ok (.agg xs.toArray) w := by
  unfold loadVar
  rw [Sem.run_bind, ht.isAgg, Result.andThen_ok, ha]
  simp only [if_true]
  rw [Sem.run_bind, ht.sizeOf, Result.andThen_ok, Sem.run_bind, ← hl, run_cells h]
  rfl
theorem run_loadVar_one {P : Program} {t : TypeId} {d : TyD} {w : World} {b o : Nat} {u : Value} (ht : TyOK P t d) (ha : d.isAgg = false) (h : w.cell? ⟨b, o, none⟩ = some u) :
    (loadVar t ⟨b, o, none⟩).run P w = .ok u w := by
  unfold loadVar
  rw [Sem.run_bind, ht.isAgg, Result.andThen_ok, ha]
  simp only [Bool.false_eq_true, if_false]
  rw [run_load]
  simp [h]

theorem relC_length {G : Ghost} {x : HV} {cs : List Value} (h : relC G x cs) (hx : x.kd ≠ .tup) : cs.length = x.cells.length := by
  by_cases ho : x.kd = .one
  · obtain ⟨u, rfl, _⟩ := relC_one h ho
    have : x.cells = [x] := by cases x <;> first | rfl | cases ho
    rw [this]; rfl
  · cases x <;> first | exact absurd rfl ho | exact absurd rfl hx | skip
    simp only [relC] at h
    exact relCs_length h
theorem rel_of_cells {G : Ghost} {x : HV} {cs : List Value} (h : relC G x cs) (hx : x.kd = .agg) : rel G x (.agg cs.toArray) := by
  cases x <;> first | cases hx | skip
  simp only [relC] at h
  exact rel_agg h

theorem hget_mem {s : HS} {r : Nat} {x : Res} (h : hget s r = some x) : (r, x) ∈ s := by
  induction s with
  | nil => simp [hget_nil] at h
  | cons p s ih =>
    obtain ⟨q, y⟩ := p
    simp only [hget_cons] at h
    split at h
    · rename_i e; subst e; simp only [Option.some.injEq] at h; subst h; exact List.mem_cons_self
    · exact List.mem_cons_of_mem _ (ih h)

theorem rel_ptr {G : Ghost} {r off : Nat} {u : Value} (h : rel G (.ptr r off) u) : ∃ b, G.om r = some b ∧ u = .pointer (some ⟨b, off, none⟩) := by
  obtain ⟨h1, _⟩ := leaf_of h rfl
  simp only [relC] at h1
  obtain ⟨b, e, hb⟩ := h1
  exact ⟨b, e, by simpa using hb⟩
theorem ptr_rel {G : Ghost} {r off b : Nat} (h : G.om r = some b) : rel G (.ptr r off) (.pointer (some ⟨b, off, none⟩)) :=
  rel_leaf (by simp only [relC]; exact ⟨b, h, rfl⟩) rfl

theorem load_ok (c : Cx) {s : HS} {G : Ghost} {w : World} (hs : SRel G s w) (t : TypeId) {p : HV} {u : Value} (hp : rel G p u) :
    ResOK c.P s G w ((do pure (Next.value (← Instr.loadAt t u)) : Sem Next).run c.P w) (hload c t p) := by
  have key : ∀ {a : Addr} {x : HV} {v : Value}, u = .pointer (some a) → (loadVar t a).run c.P w = .ok v w → rel G x v → Gives s G w ((do pure (Next.value (← Instr.loadAt t u)) : Sem Next).run c.P w) x s := by
    intro a x v e h hx
    subst e
    exact ⟨v, w, G, .inl (by simp [Instr.loadAt, Instr.sureAddr, h]), hx, .refl hs⟩
  unfold hload
  split
  · trivial
  · rename_i d hd
    have ht := c.ty_ok t d hd
    split
    · rename_i x
      obtain ⟨h1, _⟩ := leaf_of hp rfl
      simp only [relC] at h1
      obtain ⟨b, o, xs, e, hk, hK, hx⟩ := h1
      have e : u = .pointer (some ⟨b, o, none⟩) := by simpa using e
      have hcell : ∀ j, j < xs.length → w.cell? ⟨b, o + j, none⟩ = xs[j]? := fun j hj => by
        have := hK j hj
        rw [List.getElem?_eq_getElem hj] at this ⊢
        exact hs.kw _ _ _ this
      split
      · rename_i ha
        intro hb
        simp only [Bool.and_eq_true, Nat.beq_eq] at hb
        obtain ⟨hkd, hl⟩ := hb
        have hkd := kdAgg_eq hkd
        exact key e (run_loadVar_agg ht ha (by rw [relC_length hx hk, hl]) hcell) (rel_of_cells hx hkd)
      · rename_i ha
        intro hkd
        have hkd := kdOne_eq hkd
        obtain ⟨v, rfl, hv⟩ := relC_one hx hkd
        exact key e (run_loadVar_one ht ha (by simpa using hcell 0 (by simp))) (rel_leaf hx hkd)
    · rename_i r off
      obtain ⟨b, ho, e⟩ := rel_ptr hp
      intro rx hg
      cases rx with
      | cells cs t' =>
        have hh := hs.holds r _ (hget_mem hg)
        obtain ⟨b', vs, ho', ro, hb, hcs, hK⟩ := hh
        rw [ho] at ho'
        cases ho'
        simp only []
        split
        · rename_i ha
          split
          case h_2 => trivial
          rename_i hl
          have hl : off + d.size ≤ cs.length := Nat.le_of_ble_eq_true hl
          rw [forceL_eq]
          have hlen := relCs_length hcs
          have hseg := relCs_take d.size (relCs_drop off hcs)
          refine key e (run_loadVar_agg (xs := (vs.toList.drop off).take d.size) ht ha ?_ ?_) (rel_agg hseg)
          · simp only [List.length_take, List.length_drop]; omega
          · intro j hj
            have hj' : j < d.size := by simp only [List.length_take] at hj; omega
            simp only [World.cell?, hb, Option.isSome_none, Bool.false_eq_true, if_false]
            rw [List.getElem?_take_of_lt hj', List.getElem?_drop, Array.getElem?_toList]
        · rename_i ha
          split
          · rename_i x hx
            intro hkd
            have hkd := kdOne_eq hkd
            obtain ⟨v, hv, _, hr⟩ := relCs_get hcs off x hx
            exact key e (run_loadVar_one ht ha (by simp only [World.cell?, hb, Option.isSome_none, Bool.false_eq_true, if_false]; rw [← Array.getElem?_toList]; exact hv)) (rel_leaf hr hkd)
          · trivial
      | map es => trivial
      | tok n => trivial
      | void => trivial
    · trivial

end Go.Proofs.Hk

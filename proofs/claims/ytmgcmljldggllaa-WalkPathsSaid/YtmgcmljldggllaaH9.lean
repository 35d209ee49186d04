import Derived.Test.YtmgcmljldggllaaH8
set_option linter.unusedSimpArgs false
set_option linter.unusedVariables false
namespace Go.Proofs.Hk
open Go

theorem relAts_get {G : Ghost} {sz : Nat} {rd : Nat → Option Value} : ∀ {l : List HV} {o : Nat}, relAts G l rd o sz → ∀ (i : Nat) (x : HV), l[i]? = some x →
    ∃ cs, cs.length = sz ∧ x.kd ≠ .tup ∧ (∀ j, j < sz → rd (o + i * sz + j) = cs[j]?) ∧ relC G x cs
  | [], o, _, i, x, e => by simp at e
  | y :: ys, o, h, 0, x, e => by
    simp only [relAts] at h
    simp only [List.getElem?_cons_zero, Option.some.injEq] at e
    subst e
    simpa using h.1
  | y :: ys, o, h, i + 1, x, e => by
    simp only [relAts] at h
    obtain ⟨cs, h1, h2, h3, h4⟩ := relAts_get h.2 i x (by simpa using e)
    refine ⟨cs, h1, h2, fun j hj => ?_, h4⟩
    rw [← h3 j hj]
    congr 1
    simp only [Nat.add_mul, Nat.one_mul]; omega
theorem relAts_drop {G : Ghost} {sz : Nat} {rd : Nat → Option Value} : ∀ {l : List HV} {o : Nat} (k : Nat), relAts G l rd o sz → relAts G (l.drop k) rd (o + k * sz) sz
  | [], o, k, _ => by simp [relAts]
  | x :: xs, o, 0, h => by simpa using h
  | x :: xs, o, k + 1, h => by
    simp only [relAts] at h
    have := relAts_drop k h.2
    simp only [List.drop_succ_cons]
    rw [show o + (k + 1) * sz = o + sz + k * sz from by simp only [Nat.add_mul, Nat.one_mul]; omega]
    exact this
theorem relAts_take {G : Ghost} {sz : Nat} {rd : Nat → Option Value} : ∀ {l : List HV} {o : Nat} (k : Nat), relAts G l rd o sz → relAts G (l.take k) rd o sz
  | [], o, k, _ => by simp [relAts]
  | x :: xs, o, 0, h => by simp [relAts]
  | x :: xs, o, k + 1, h => by
    simp only [relAts] at h
    simp only [List.take_succ_cons, relAts]
    exact ⟨h.1, relAts_take k h.2⟩
theorem relAts_append {G : Ghost} {sz : Nat} {rd : Nat → Option Value} : ∀ {l m : List HV} {o : Nat}, relAts G l rd o sz → relAts G m rd (o + l.length * sz) sz → relAts G (l ++ m) rd o sz
  | [], m, o, _, k => by simpa using k
  | x :: xs, m, o, h, k => by
    simp only [relAts, List.cons_append] at h ⊢
    refine ⟨h.1, relAts_append h.2 ?_⟩
    rw [show o + sz + xs.length * sz = o + (x :: xs).length * sz from by simp only [List.length_cons, Nat.add_mul, Nat.one_mul]; omega]
    exact k

/-- A row's value: nil, or a block's. -/
theorem rel_list {G : Ghost} {t : Tok} {sz : Nat} {l : List HV} {u : Value} (h : rel G (.list t sz l) u) :
    (l = [] ∧ u = .slice none 0 0 ∧ tokNil G t) ∨ (∃ b o c, u = .slice (some ⟨b, o, none⟩) l.length c ∧ l.length ≤ c ∧ relAts G l (G.K b) o sz ∧ tokRel G t sz l.length b o c) ∨ (l = [] ∧ (∀ i st, t ≠ .own i st) ∧ ∃ a, u = .slice (some a) 0 0) := by
  obtain ⟨h1, _⟩ := leaf_of h rfl
  simp only [relC] at h1
  rcases h1 with ⟨e, h1, h2⟩ | ⟨b, o, c, h1, h2⟩ | ⟨e, et, a, h1⟩
  · exact .inl ⟨e, by simpa using h1, h2⟩
  · exact .inr (.inl ⟨b, o, c, by simpa using h1, h2⟩)
  · exact .inr (.inr ⟨e, et, a, by simpa using h1⟩)
theorem list_rel_odd {G : Ghost} {t : Tok} {sz : Nat} (a : Addr) (h : ∀ i st, t ≠ .own i st) : rel G (.list t sz []) (.slice (some a) 0 0) :=
  rel_leaf (by simp only [relC]; exact .inr (.inr ⟨trivial, h, a, rfl⟩)) rfl
theorem list_rel {G : Ghost} {t : Tok} {sz : Nat} {l : List HV} {b o c : Nat} (h1 : l.length ≤ c) (h2 : relAts G l (G.K b) o sz) (h3 : tokRel G t sz l.length b o c) : rel G (.list t sz l) (.slice (some ⟨b, o, none⟩) l.length c) :=
  rel_leaf (by simp only [relC]; exact .inr (.inl ⟨b, o, c, rfl, h1, h2, h3⟩)) rfl
theorem list_rel_nil {G : Ghost} {t : Tok} {sz : Nat} (h : tokNil G t) : rel G (.list t sz []) (.slice none 0 0) :=
  rel_leaf (by simp only [relC]; exact .inl ⟨trivial, trivial, h⟩) rfl
theorem rel_arr {G : Ghost} {r off len cap sz : Nat} {u : Value} (h : rel G (.arr r off len cap sz) u) : ∃ b, G.om r = some b ∧ u = .slice (some ⟨b, off, none⟩) len cap := by
  obtain ⟨h1, _⟩ := leaf_of h rfl
  simp only [relC] at h1
  obtain ⟨b, e, hb⟩ := h1
  exact ⟨b, e, by simpa using hb⟩
theorem arr_rel {G : Ghost} {r off len cap sz b : Nat} (h : G.om r = some b) : rel G (.arr r off len cap sz) (.slice (some ⟨b, off, none⟩) len cap) :=
  rel_leaf (by simp only [relC]; exact ⟨b, h, rfl⟩) rfl
theorem cptr_rel {G : Ghost} {x : HV} {b o : Nat} {xs : List Value} (hk : x.kd ≠ .tup) (h : ∀ j, j < xs.length → G.K b (o + j) = xs[j]?) (hx : relC G x xs) : rel G (.cptr x) (.pointer (some ⟨b, o, none⟩)) :=
  rel_leaf (by simp only [relC]; exact ⟨b, o, xs, rfl, hk, h, hx⟩) rfl

theorem len_ok (c : Cx) {s : HS} {G : Ghost} {w : World} (hs : SRel G s w) (t : TypeId) {x : HV} {u : Value} (hx : rel G x u) (ty : TypeId) :
    ResOK c.P s G w ((do pure (Next.value (← Builtin.len_ #[t] ty #[u])) : Sem Next).run c.P w) (hlen c t x) := by
  have fin : ∀ n : Nat, (Builtin.len_ #[t] ty #[u]).run c.P w = .ok (goInt n) w → ResOK c.P s G w ((do pure (Next.value (← Builtin.len_ #[t] ty #[u])) : Sem Next).run c.P w) (.pure (.v (.int .i64 n))) := fun n h =>
    ⟨_, w, G, .inl (by rw [Sem.run_bind, h]; rfl), rel_v G, .refl hs⟩
  unfold hlen
  split
  · rename_i size bytes ag z e hd
    have hu := (c.ty_ok t _ hd).slice (w := w) rfl
    split
    · refine fin _ ?_
      rcases rel_list hx with ⟨rfl, rfl, _⟩ | ⟨b, o, c', rfl, _⟩ | ⟨rfl, _, a, rfl⟩ <;> simp [Builtin.len_, hu, goInt]
    · obtain ⟨b, _, rfl⟩ := rel_arr hx
      exact fin _ (by simp [Builtin.len_, hu, goInt])
    · have := rel_v_eq hx
      subst this
      exact fin _ (by simp [Builtin.len_, hu, goInt])
    · trivial
  · rename_i size bytes ag z hd
    have hu := (c.ty_ok t _ hd).string (w := w) rfl
    split
    · have := rel_v_eq hx
      subst this
      exact fin _ (by simp [Builtin.len_, hu, goInt])
    · trivial
  · trivial

theorem indexAddr_ok (c : Cx) {s : HS} {G : Ghost} {w : World} (hs : SRel G s w) (t : TypeId) {x i : HV} {u v : Value} (hx : rel G x u) (hi : rel G i v) :
    ResOK c.P s G w ((do pure (Next.value (← Instr.indexAt t u v)) : Sem Next).run c.P w) (hindexAddr c t x i) := by
  unfold hindexAddr
  split
  · rename_i size bytes ag z e hd
    have ht := c.ty_ok t _ hd
    have hu := ht.slice (w := w) rfl
    split
    · trivial
    · rename_i d he
      have hte := c.ty_ok e d he
      split
      · rename_i k n
        have := rel_v_eq hi
        subst this
        split
        · rename_i tk sz l
          rintro ⟨h0, h1, rfl⟩
          rcases (rel_list hx).imp id or_comm.1 with ⟨rfl, rfl, _⟩ | ⟨rfl, _, a, rfl⟩ | ⟨b, o, cp, rfl, _, ha, _⟩
          · simp at h1; omega
          · simp at h1; omega
          · have hlt : n.toNat < l.length := by omega
            obtain ⟨cs, c1, c2, c3, c4⟩ := relAts_get ha n.toNat l[n.toNat] (List.getElem?_eq_getElem hlt)
            refine ⟨.pointer (some ⟨b, o + n.toNat * d.size, none⟩), w, G, .inl ?_, ?_, .refl hs⟩
            · simp only [Instr.indexAt, asIntOf, Sem.run_bind, pure_bind, hu, Result.andThen_ok]
              rw [if_pos ⟨h0, by omega⟩]
              simp only [Sem.run_bind, hte.sizeOf, Result.andThen_ok, Sem.run_pure, add_plain]
            · rw [List.getD_eq_getElem?_getD, List.getElem?_eq_getElem hlt]
              exact cptr_rel c2 (fun j hj => c3 j (by omega)) c4
        · rename_i r off len cap sz
          rintro ⟨h0, h1, rfl⟩
          obtain ⟨b, ho, rfl⟩ := rel_arr hx
          refine ⟨.pointer (some ⟨b, off + n.toNat * d.size, none⟩), w, G, .inl ?_, ptr_rel ho, .refl hs⟩
          simp only [Instr.indexAt, asIntOf, Sem.run_bind, pure_bind, hu, Result.andThen_ok]
          rw [if_pos ⟨h0, by omega⟩]
          simp only [Sem.run_bind, hte.sizeOf, Result.andThen_ok, Sem.run_pure, add_plain]
        · trivial
      · trivial
  · trivial

theorem index_ok (c : Cx) {s : HS} {G : Ghost} {w : World} (hs : SRel G s w) (t : TypeId) {x i : HV} {u v : Value} (hx : rel G x u) (hi : rel G i v) :
    ResOK c.P s G w ((do pure (Next.value (← Instr.index t u v)) : Sem Next).run c.P w) (hindex c t x i) := by
  unfold hindex
  split
  · rename_i size bytes ag z hd
    have hu := (c.ty_ok t _ hd).string (w := w) rfl
    split
    · rename_i b k n
      have e1 := rel_v_eq hi
      have e2 := rel_v_eq hx
      subst e1 e2
      rintro ⟨h0, h1⟩
      have hlt : n.toNat < b.size := by omega
      have hg : b[n.toNat]? = some (b.data.toList.getD n.toNat 0) := by
        have : n.toNat < b.data.toList.length := by simpa using hlt
        rw [List.getD_eq_getElem?_getD, List.getElem?_eq_getElem this]
        simp only [Option.getD_some]
        rw [getElem?_pos b n.toNat hlt]
        rfl
      refine ⟨_, w, G, .inl ?_, rel_v G, .refl hs⟩
      simp only [Instr.index, asIntOf, Sem.run_bind, pure_bind, hu, Result.andThen_ok, h0, if_true, hg, Sem.run_pure, byteAt]
    · trivial
  · trivial

theorem fieldAddr_ok (c : Cx) {s : HS} {G : Ghost} {w : World} (hs : SRel G s w) (t : TypeId) (f : Nat) {x : HV} {u : Value} (hx : rel G x u) :
    ResOK c.P s G w ((do pure (Next.value (← Instr.fieldAt t u f)) : Sem Next).run c.P w) (hfieldAddr c t x f) := by
  unfold hfieldAddr
  split
  · rename_i size bytes ag z fs eq hd
    obtain ⟨F, hu, hF, _⟩ := (c.ty_ok t _ hd).struct (w := w) rfl
    split
    · trivial
    · rename_i o s' agg hf
      obtain ⟨fl, e1, e2, e3⟩ := fieldsOK_get hF f o s' agg hf
      have e1' : F[f]? = some fl := by simpa using e1
      split
      · trivial
      · rename_i hne
        have hne : s' ≠ 0 := fun e => by subst e; cases hne
        have run : ∀ b off, u = .pointer (some ⟨b, off, none⟩) → (do pure (Next.value (← Instr.fieldAt t u f)) : Sem Next).run c.P w = .ok (.value (.pointer (some ⟨b, off + o, none⟩))) w := by
          intro b off e
          subst e
          simp only [Instr.fieldAt, Sem.run_bind, hu, Result.andThen_ok, e1', Instr.sureAddr, pure_bind, fieldPlace, (e3 w).1]
          rw [if_neg hne]
          simp only [Sem.run_pure, Result.andThen_ok, add_plain, e2]
        split
        · rename_i r off
          obtain ⟨b, ho, e⟩ := rel_ptr hx
          exact ⟨_, w, G, .inl (run b off e), ptr_rel ho, .refl hs⟩
        · rename_i y
          obtain ⟨h1, _⟩ := leaf_of hx rfl
          simp only [relC] at h1
          obtain ⟨b, oo, xs, e, hk, hK, hr⟩ := h1
          have e : u = .pointer (some ⟨b, oo, none⟩) := by simpa using e
          split
          · intro hb
            simp only [Bool.and_eq_true] at hb
            obtain ⟨hkd, hl⟩ := hb
            have hkd := kdAgg_eq hkd
            have hl := Nat.le_of_ble_eq_true hl
            cases y <;> first | cases hkd | skip
            rename_i l
            simp only [relC] at hr
            simp only [HV.cells] at hl ⊢
            have hlen := relCs_length hr
            refine ⟨_, w, G, .inl (run b oo e), cptr_rel (xs := (xs.drop o).take s') (by simp [HV.kd]) (fun j hj => ?_) (by simp only [relC]; exact relCs_take _ (relCs_drop _ hr)), .refl hs⟩
            have hj' : j < s' := by simp only [List.length_take] at hj; omega
            rw [List.getElem?_take_of_lt hj', List.getElem?_drop, Nat.add_assoc]
            exact hK (o + j) (by omega)
          · split
            · rename_i y' hy'
              intro hb
              simp only [Bool.and_eq_true, Nat.beq_eq] at hb
              obtain ⟨⟨hkd, hkd'⟩, hs1⟩ := hb
              have hkd := kdAgg_eq hkd
              have hkd' := kdOne_eq hkd'
              cases y <;> first | cases hkd | skip
              rename_i l
              simp only [relC] at hr
              simp only [HV.cells] at hy'
              obtain ⟨v, hv, _, hr'⟩ := relCs_get hr o y' hy'
              refine ⟨_, w, G, .inl (run b oo e), cptr_rel (xs := [v]) (by rw [hkd']; simp) (fun j hj => ?_) hr', .refl hs⟩
              have : j = 0 := by simpa using hj
              subst this
              have := hK o (List.getElem?_eq_some_iff.1 hv).1
              simpa [hv] using this
            · trivial
        · trivial
  · trivial

theorem field_ok (c : Cx) {s : HS} {G : Ghost} {w : World} (hs : SRel G s w) (t : TypeId) (f : Nat) {x : HV} {u : Value} (hx : rel G x u) :
    ResOK c.P s G w ((do pure (Next.value (← Instr.field t u f)) : Sem Next).run c.P w) (hfield c t x f) := by
  unfold hfield
  split
  · rename_i size bytes ag z fs eq hd
    obtain ⟨F, hu, hF, _⟩ := (c.ty_ok t _ hd).struct (w := w) rfl
    split
    · trivial
    · rename_i o s' agg hf
      obtain ⟨fl, e1, e2, e3⟩ := fieldsOK_get hF f o s' agg hf
      have e1' : F[f]? = some fl := by simpa using e1
      split
      · rename_i l
        obtain ⟨us, rfl, hus⟩ := rel_agg_inv hx
        unfold hpart
        split
        · split
          case h_2 => trivial
          rename_i hl
          have hl := Nat.le_of_ble_eq_true hl
          rw [forceL_eq]
          refine ⟨_, w, G, .inl ?_, rel_agg (relCs_take s' (relCs_drop o hus)), .refl hs⟩
          simp only [Instr.field, Sem.run_bind, hu, Result.andThen_ok, e1', asAgg, pure_bind, part, (e3 w).2, (e3 w).1, if_true, Sem.run_pure, e2]
          congr 3
          apply Array.toList_inj.1
          simp only [Array.toList_extract, List.extract_eq_take_drop]
          congr 1
          omega
        · split
          · rename_i y hy
            obtain ⟨v, hv, hk, hr⟩ := relCs_get hus o y hy
            have hv' : us[o]? = some v := by simpa using hv
            refine ⟨v, w, G, .inl ?_, rel_leaf hr hk, .refl hs⟩
            simp only [Instr.field, Sem.run_bind, hu, Result.andThen_ok, e1', asAgg, pure_bind, part, (e3 w).2, Bool.false_eq_true, if_false, e2, hv', Sem.run_pure]
          · trivial
      · trivial
  · trivial

end Go.Proofs.Hk

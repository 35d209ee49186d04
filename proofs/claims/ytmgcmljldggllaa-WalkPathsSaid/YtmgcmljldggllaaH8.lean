import Derived.Test.YtmgcmljldggllaaH7
set_option linter.unusedSimpArgs false
set_option linter.unusedVariables false
namespace Go.Proofs.Hk
open Go

/-! Rows that never change. -/
def Ghost.commit (G : Ghost) (b : Nat) (vs : Array Value) : Ghost := { G with K := fun b' o => if b' = b then vs[o]? else G.K b' o }
theorem Ghost.commit_le {G : Ghost} {s : HS} {w : World} (h : SRel G s w) (vs : Array Value) : G.Le (G.commit w.heap.size vs) :=
  ⟨fun b o v e => by
    have := h.K_lt e
    simp only [Ghost.commit]
    rw [if_neg (by omega)]; exact e, fun _ _ e => e, fun _ t e => ⟨t, e, Nat.le_refl _, fun _ => rfl⟩⟩
theorem post_commit {G : Ghost} {s : HS} {w : World} (h : SRel G s w) (vs : Array Value) (t : TypeId) :
    Post s G w s (G.commit w.heap.size vs) (World.pushed w (.cells vs t)) := by
  have le := Ghost.commit_le h vs
  have hb : ∀ b, b < w.heap.size → (World.pushed w (.cells vs t)).heap[b]? = w.heap[b]? ∧ (G.commit w.heap.size vs).role b = G.role b ∧ ∀ o, (G.commit w.heap.size vs).K b o = G.K b o := fun b hb =>
    ⟨pushed_lt w _ hb, rfl, fun o => by simp only [Ghost.commit]; rw [if_neg (by omega)]⟩
  refine ⟨⟨fun b off v e => ?_, h.keys, fun r y hy => (h.holds r y hy).agree h le hb (fun _ _ e => e) (fun _ a b c d => ⟨a, b, c, d⟩), h.fresh, fun b r e => ?_⟩, ⟨le, by simp [World.pushed], fun b hlt _ => hb b hlt, fun r tp e _ => e, Nat.le_refl _, rfl, rfl, rfl, fun _ _ _ b c d => ⟨b, c, d⟩⟩, fun r hr => .inl hr⟩
  · simp only [Ghost.commit] at e
    split at e
    · rename_i hb; subst hb
      simp only [World.cell?, pushed_new, Option.isSome_none, Bool.false_eq_true, if_false]; exact e
    · exact pushed_cell w _ (h.kw b off v e)
  · have := h.role b r e
    simp only [World.pushed, Array.size_push]
    exact ⟨by omega, this.2⟩

/-- The cells of values, one behind the other. -/
def flat (us : List Value) : List Value := us.flatMap fun u => u.cells.toList
theorem relVs_length {G : Ghost} : ∀ {l : List HV} {us : List Value}, relVs G l us → us.length = l.length
  | [], us, h => by simp only [relVs] at h; simp [h]
  | x :: xs, us, h => by
    simp only [relVs_cons] at h
    obtain ⟨u, us', rfl, _, h⟩ := h
    simp [relVs_length h]
theorem flat_length {G : Ghost} {sz : Nat} : ∀ {l : List HV} {us : List Value}, relVs G l us → allCells sz l = true → (flat us).length = l.length * sz
  | [], us, h, _ => by simp only [relVs] at h; subst h; simp [flat]
  | x :: xs, us, h, ha => by
    simp only [relVs_cons] at h
    obtain ⟨u, us', rfl, hx, h⟩ := h
    simp only [allCells, Bool.and_eq_true, Nat.beq_eq] at ha
    have := relCs_length (rel_cells hx (kd_ok ha.1.2))
    have ih := flat_length h ha.2
    simp only [flat, List.flatMap_cons, List.length_append] at ih ⊢
    rw [ih, this, ha.1.1, List.length_cons, Nat.add_mul, Nat.one_mul, Nat.add_comm]
theorem relAts_flat {G G' : Ghost} (le : G.Le G') {sz : Nat} {rd : Nat → Option Value} : ∀ {l : List HV} {us : List Value} {o : Nat}, relVs G l us → allCells sz l = true → (∀ j, j < l.length * sz → rd (o + j) = (flat us)[j]?) → relAts G' l rd o sz
  | [], us, o, h, _, _ => by simp only [relAts]
  | x :: xs, us, o, h, ha, hr => by
    simp only [relVs_cons] at h
    obtain ⟨u, us', rfl, hx, h⟩ := h
    simp only [allCells, Bool.and_eq_true, Nat.beq_eq] at ha
    have hl : u.cells.toList.length = sz := by rw [relCs_length (rel_cells hx (kd_ok ha.1.2)), ha.1.1]
    simp only [relAts]
    have hlen : (x :: xs).length * sz = xs.length * sz + sz := by simp [Nat.add_mul]
    refine ⟨⟨u.cells.toList, hl, kd_ok ha.1.2, fun j hj => ?_, relC.mono le _ _ hx.2⟩, relAts_flat le h ha.2 fun j hj => ?_⟩
    · rw [hr j (by omega)]
      simp only [flat, List.flatMap_cons]
      rw [List.getElem?_append_left (by omega)]
    · rw [Nat.add_assoc, hr (sz + j) (by omega)]
      simp only [flat, List.flatMap_cons]
      rw [List.getElem?_append_right (by omega), hl]
      congr 1; omega

theorem inOrder_eq : ∀ {parts : List (Nat × HV)} {k : Nat} {l : List HV}, inOrder parts k = some l → parts.map (·.2) = l ∧ parts.map (·.1) = List.range' k l.length
  | [], k, l, h => by simp only [inOrder, Option.some.injEq] at h; subst h; simp
  | (i, x) :: rest, k, l, h => by
    simp only [inOrder] at h
    split at h
    · rename_i hi
      split at h
      · rename_i l' hl
        simp only [Option.some.injEq] at h
        subst h
        obtain ⟨h1, h2⟩ := inOrder_eq hl
        have : i = k := Nat.eq_of_beq_eq_true hi
        subst this
        simp only [List.map_cons, h1, h2, List.length_cons, List.range'_succ]
        exact ⟨trivial, trivial⟩
      · cases h
    · cases h

theorem fill_row {G : Ghost} {sz : Nat} : ∀ {l : List HV} {us : List Value} {k : Nat} {cells : Array Value}, relVs G l us → allCells sz l = true → (k + l.length) * sz ≤ cells.size →
    Instr.fill (fun i => some (i * sz, sz)) cells ((List.range' k l.length).zip us) = some (cells.toList.take (k * sz) ++ flat us ++ cells.toList.drop ((k + l.length) * sz)).toArray
  | [], us, k, cells, h, _, hs => by
    simp only [relVs] at h
    subst h
    simp [Instr.fill, flat]
  | x :: xs, us, k, cells, h, ha, hs => by
    simp only [relVs_cons] at h
    obtain ⟨u, us', rfl, hx, h⟩ := h
    simp only [allCells, Bool.and_eq_true, Nat.beq_eq] at ha
    have hl : u.cells.size = sz := by have := relCs_length (rel_cells hx (kd_ok ha.1.2)); rw [ha.1.1] at this; simpa using this
    have e1 : (k + (x :: xs).length) * sz = k * sz + sz + xs.length * sz := by simp only [List.length_cons, Nat.add_mul, Nat.one_mul]; omega
    have e2 : (k + 1 + xs.length) * sz = k * sz + sz + xs.length * sz := by simp only [Nat.add_mul, Nat.one_mul]
    have e3 : (k + 1) * sz = k * sz + sz := by simp only [Nat.add_mul, Nat.one_mul]
    rw [e1] at hs
    have hfl := flat_length h ha.2
    simp only [List.length_cons, List.range'_succ, List.zip_cons_cons, Instr.fill]
    rw [if_neg (by simp; omega), foldl_set' (k * sz) u.cells cells (by omega)]
    rw [fill_row h ha.2 (by rw [e2]; simp; omega)]
    congr 2
    simp only [flat, List.flatMap_cons]
    have e1' : (k + (xs.length + 1)) * sz = k * sz + sz + xs.length * sz := by simp only [Nat.add_mul, Nat.one_mul]; omega
    rw [e1', e2, e3]
    have h1 : (cells.toList.take (k * sz)).length = k * sz := by simp; omega
    have h2 : (cells.toList.take (k * sz) ++ u.cells.toList).length = k * sz + sz := by simp only [List.length_append, h1, Array.length_toList, hl]
    rw [List.take_append_of_le_length (by omega), List.take_of_length_le (by omega)]
    rw [List.drop_append, List.drop_of_length_le (by omega), List.nil_append, List.drop_drop, h2, hl]
    simp only [List.append_assoc]
    congr 4
    omega

theorem buildSlice_ok (c : Cx) {s : HS} {G : Ghost} {w : World} (hs : SRel G s w) (t : TypeId) (n : Nat) {ns : List Nat} {vs : List HV} {us : List Value} (hn : ns.length = vs.length) (hx : relVs G vs us) :
    ResOK c.P s G w ((do pure (Next.value (← Instr.buildSlice t n (ns.zip us).toArray)) : Sem Next).run c.P w) (hbuildSlice c t n (ns.zip vs)) := by
  unfold hbuildSlice
  split
  · rename_i size bytes ag z e hd
    have ht := c.ty_ok t _ hd
    split
    · trivial
    · rename_i d he
      have hte := c.ty_ok e d he
      split
      · trivial
      · rename_i l hl
        split
        · rename_i hb
          simp only [Bool.and_eq_true, Nat.beq_eq] at hb
          obtain ⟨⟨h1, h2⟩, h3⟩ := hb
          have h3 : n * d.size ≤ 16777216 := Nat.le_of_ble_eq_true h3
          obtain ⟨q1, q2⟩ := inOrder_eq hl
          have e1 : (ns.zip vs).map (·.2) = vs := by simp [List.map_snd_zip, hn]
          have e2 : (ns.zip vs).map (·.1) = ns := by simp [List.map_fst_zip, hn]
          rw [e1] at q1
          rw [e2] at q2
          subst q1
          subst h1
          have hfl := flat_length hx h2
          have hz : ∀ z : Array Value, ((Array.range (vs.length * d.size)).map (fun x => z[x % z.size]!)).size = vs.length * d.size := fun z => by simp
          have hfill : ∀ z : Array Value, Instr.fill (fun i => some (i * d.size, d.size)) ((Array.range (vs.length * d.size)).map (fun x => z[x % z.size]!)) (ns.zip us) = some (flat us).toArray := fun z => by
            rw [q2, fill_row hx h2 (by simp)]
            simp
          refine ⟨.slice (some ⟨w.heap.size, 0, none⟩) vs.length vs.length, World.pushed w (.cells (flat us).toArray e), G.commit w.heap.size (flat us).toArray, .inl ?_, rel_leaf ?_ rfl, post_commit hs _ _⟩
          · have hu := ht.slice (w := w) rfl
            simp only [Instr.buildSlice, Sem.run_bind, hu, Result.andThen_ok, hte.sizeOf]
            rw [if_neg (by omega)]
            by_cases h0 : vs.length * d.size = 0
            · rw [if_pos h0]
              simp only [Sem.run_bind, Sem.run_pure, Result.andThen_ok, hfill]
              simp [newRow, Go.newObj, Sem.run, World.pushed]
            · rw [if_neg h0]
              simp only [Sem.run_bind, hte.zero, Sem.run_pure, Result.andThen_ok, hfill]
              simp [newRow, Go.newObj, Sem.run, World.pushed]
          · simp only [relC]
            refine .inr (.inl ⟨w.heap.size, 0, vs.length, rfl, Nat.le_refl _, ?_, rfl⟩)
            refine relAts_flat (Ghost.commit_le hs _) hx h2 fun j hj => ?_
            simp [Ghost.commit]
        · trivial
  · trivial

end Go.Proofs.Hk

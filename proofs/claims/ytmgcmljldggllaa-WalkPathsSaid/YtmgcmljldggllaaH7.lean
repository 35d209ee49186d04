import Derived.Test.YtmgcmljldggllaaH6
set_option linter.unusedSimpArgs false
set_option linter.unusedVariables false
namespace Go.Proofs.Hk
open Go

/-! Structs. -/
theorem kd_ok {x : HV} (h : kdOk x = true) : x.kd ≠ .tup := kdOk_ne h
theorem foldl_set (off : Nat) : ∀ (vs : List Value) (k : Nat) (cells : Array Value), off + k + vs.length ≤ cells.size →
    ((vs.zipIdx k).foldl (fun cs (c, j) => cs.setIfInBounds (off + j) c) cells) = (cells.toList.take (off + k) ++ vs ++ cells.toList.drop (off + k + vs.length)).toArray
  | [], k, cells, h => by simp
  | v :: vs, k, cells, h => by
    simp only [List.zipIdx_cons, List.foldl_cons]
    simp only [List.length_cons] at h
    rw [foldl_set off vs (k + 1) (cells.setIfInBounds (off + k) v) (by simp; omega)]
    have e := list_seg_step cells.toList (off + k) v vs (by simp; omega)
    simpa [Array.toList_setIfInBounds, Nat.add_assoc] using e

theorem foldl_set' (off : Nat) (vs : Array Value) (cells : Array Value) (h : off + vs.size ≤ cells.size) :
    (vs.zipIdx.foldl (fun cs (c, j) => cs.setIfInBounds (off + j) c) cells) = (cells.toList.take off ++ vs.toList ++ cells.toList.drop (off + vs.size)).toArray := by
  have := foldl_set off vs.toList 0 cells (by simpa using h)
  rw [← Array.foldl_toList, Array.toList_zipIdx]
  simpa using this

theorem run_mapM_places {P : Program} {w : World} : ∀ {fs : List Field} {l : List (Nat × Nat × Bool)}, fieldsOK P fs l →
    (fs.mapM fun f => do pure (f.offset, ← sizeOf f.type) : Sem (List (Nat × Nat))).run P w = .ok (l.map fun x => (x.1, x.2.1)) w
  | [], l, h => by simp only [fieldsOK] at h; subst h; rfl
  | f :: fs, l, h => by
    simp only [fieldsOK] at h
    obtain ⟨o, s, b, l', rfl, ho, ⟨inf, u, hi, hu, hs, hb⟩, h2⟩ := h
    simp only [List.mapM_cons, Sem.run_bind, bind_assoc, pure_bind, run_sizeOf _ hi, Result.andThen_ok, run_mapM_places h2]
    simp [Program.cellsOf, hi, hs, ho, Sem.run]

theorem fill_ok {G : Ghost} {fs : List (Nat × Nat × Bool)} : ∀ {parts : List (Nat × HV)} {us : List Value} {l l' : List HV} {cells : Array Value},
    relVs G (parts.map (·.2)) us → relCs G l cells.toList → hfill fs parts l = some l' →
    ∃ cells', Instr.fill (((fs.map fun x => (x.1, x.2.1)).toArray)[·]?) cells ((parts.map (·.1)).zip us) = some cells' ∧ relCs G l' cells'.toList
  | [], us, l, l', cells, h, hc, e => by
    simp only [List.map_nil, relVs] at h
    subst h
    simp only [hfill, Option.some.injEq] at e
    subst e
    exact ⟨cells, rfl, hc⟩
  | (i, x) :: rest, us, l, l', cells, h, hc, e => by
    simp only [List.map_cons, relVs_cons] at h
    obtain ⟨u, us', rfl, hx, h2⟩ := h
    simp only [hfill] at e
    split at e
    · cases e
    · rename_i o s b hf
      split at e
      · cases e
      · rename_i hs
        split at e
        · rename_i hk
          split at e
          · rename_i hbnd
            have hs : x.cells.length = s := by simpa using hs
            have hk : x.kd ≠ .tup := kd_ok hk
            have hxc := rel_cells hx hk
            have hul : u.cells.size = s := by have := relCs_length hxc; simp at this; omega
            have hbnd : o + s ≤ l.length := by simpa using hbnd
            have hcl : cells.size = l.length := by have := relCs_length hc; simpa using this
            have fs' := foldl_set' o u.cells cells (by omega)
            obtain ⟨cells', e1, e2⟩ := fill_ok (cells := u.cells.zipIdx.foldl (fun cs (c, j) => cs.setIfInBounds (o + j) c) cells) h2 (by
              rw [fs']
              exact relCs_append (relCs_append (relCs_take o hc) hxc) (by rw [hul]; exact relCs_drop _ hc)) e
            refine ⟨cells', ?_, e2⟩
            simp only [List.map_cons, List.zip_cons_cons, Instr.fill]
            have : ((fs.map fun x => (x.1, x.2.1)).toArray)[i]? = some (o, s) := by simp [hf]
            rw [this]
            simp only []
            rw [if_neg (by simp; omega)]
            exact e1
          · cases e
        · cases e

theorem build_ok (c : Cx) {s : HS} {G : Ghost} {w : World} (hs : SRel G s w) (t : TypeId) {ns : List Nat} {vs : List HV} {us : List Value} (hn : ns.length = vs.length) (hx : relVs G vs us) :
    ResOK c.P s G w ((do pure (Next.value (← Instr.build t (ns.zip us).toArray)) : Sem Next).run c.P w) (hbuild c t (ns.zip vs)) := by
  unfold hbuild
  split
  · rename_i size bytes ag cs fs eq hd
    have ht := c.ty_ok t _ hd
    split
    · rename_i l hl
      rw [forceL_eq]
      obtain ⟨F, hu, hF, _⟩ := ht.struct (w := w) rfl
      split at hl
      · rename_i hone
        have hz := ht.zero (w := w)
        have hc0 : relCs G (cs.toList.map .v) cs.toList := relCs_map_v G cs.toList fun u hu => by
          have := (List.all_eq_true.1 hone) u hu
          cases u <;> first | rfl | cases this
        have e1 : (ns.zip vs).map (·.2) = vs := by simp [List.map_snd_zip, hn]
        have e2 : (ns.zip vs).map (·.1) = ns := by simp [List.map_fst_zip, hn]
        obtain ⟨cells', h1, h2⟩ := fill_ok (by rw [e1]; exact hx) hc0 hl
        rw [e2] at h1
        refine ⟨.agg cells', w, G, .inl ?_, by simpa using rel_agg h2, .refl hs⟩
        have hm := run_mapM_places (w := w) hF
        have hm' : (F.mapM fun f => do pure (f.offset, ← sizeOf f.type) : Sem (Array (Nat × Nat))).run c.P w = .ok (fs.map fun x => (x.1, x.2.1)).toArray w := by
          rw [← Array.toArray_toList (xs := F), List.mapM_toArray]
          simp only [Sem.run_map, hm, Result.andThen_ok]
        simp only [Instr.build, Sem.run_bind, hz, Result.andThen_ok, hu, hm']
        have h1' : Instr.fill (fun x => (fs.map fun x => (x.1, x.2.1)).toArray[x]?) (Value.agg cs).cells (ns.zip us) = some cells' := h1
        rw [h1']
        rfl
      · cases hl
    · trivial
  · trivial

end Go.Proofs.Hk

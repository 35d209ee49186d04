import Derived.Laws.Append
import Derived.Test.YtmgcmljldggllaaH9
set_option linter.unusedSimpArgs false
set_option linter.unusedVariables false
namespace Go.Proofs.Hk
open Go

theorem relC_cells_one {G : Ghost} {x : HV} {cs : List Value} (h : relC G x cs) (hx : x.kd ≠ .tup) : ∀ u ∈ cs, vkd u = .one := by
  by_cases ho : x.kd = .one
  · obtain ⟨u, rfl, hu⟩ := relC_one h ho
    intro v hv
    rw [List.mem_singleton.1 hv]; exact hu
  · cases x <;> first | exact absurd rfl ho | exact absurd rfl hx | skip
    simp only [relC] at h
    exact relCs_one h
/-- The cells of a row's elements. -/
theorem relAts_cells {G : Ghost} {sz : Nat} {rd : Nat → Option Value} : ∀ {l : List HV} {o : Nat}, relAts G l rd o sz →
    ∃ news : List Value, news.length = l.length * sz ∧ (∀ j, j < news.length → rd (o + j) = news[j]?) ∧ (∀ u ∈ news, vkd u = .one) ∧
      ∀ (G' : Ghost) (rd' : Nat → Option Value) (o' : Nat), G.Le G' → (∀ j, j < news.length → rd' (o' + j) = news[j]?) → relAts G' l rd' o' sz
  | [], o, _ => ⟨[], by simp, by simp, by simp, fun _ _ _ _ _ => by simp only [relAts]⟩
  | x :: xs, o, h => by
    simp only [relAts] at h
    obtain ⟨⟨cs, h1, h2, h3, h4⟩, h5⟩ := h
    obtain ⟨news, n1, n2, n3, n4⟩ := relAts_cells h5
    refine ⟨cs ++ news, ?_, fun j hj => ?_, fun u hu => ?_, fun G' rd' o' le hr => ?_⟩
    · simp only [List.length_append, h1, n1, List.length_cons, Nat.add_mul, Nat.one_mul]; omega
    · rcases Nat.lt_or_ge j sz with hlt | hge
      · rw [List.getElem?_append_left (by omega)]; exact h3 j hlt
      · rw [List.getElem?_append_right (by omega), h1, ← n2 (j - sz) (by simp only [List.length_append] at hj; omega)]
        congr 1; omega
    · rcases List.mem_append.1 hu with hu | hu
      · exact relC_cells_one h4 h2 u hu
      · exact n3 u hu
    · simp only [relAts]
      refine ⟨⟨cs, h1, h2, fun j hj => ?_, relC.mono le _ _ h4⟩, n4 G' rd' (o' + sz) le fun j hj => ?_⟩
      · rw [hr j (by simp only [List.length_append]; omega), List.getElem?_append_left (by omega)]
      · rw [Nat.add_assoc, hr (sz + j) (by simp only [List.length_append]; omega), List.getElem?_append_right (by omega), h1]
        congr 1; omega

structure Src (P : Program) (G : Ghost) (w : World) (sz : Nat) (v : Value) (ys : List HV) (news : List Value) : Prop where
  len : ∀ w', (Builtin.lenOf v).run P w' = .ok ys.length w'
  first : ∀ w', w'.heap = w.heap → (Builtin.firstCells sz ys.length v).run P w' = .ok news.toArray w'
  length : news.length = ys.length * sz
  one : ∀ u ∈ news, vkd u = .one
  rel : ∀ (G' : Ghost) (rd : Nat → Option Value) (o : Nat), G.Le G' → (∀ j, j < news.length → rd (o + j) = news[j]?) → relAts G' ys rd o sz

theorem cell_of_heap {w w' : World} (h : w'.heap = w.heap) (a : Addr) : w'.cell? a = w.cell? a := by simp only [World.cell?, h]

theorem src_list (P : Program) {G : Ghost} {w : World} {s : HS} (hs : SRel G s w) {t : Tok} {sz : Nat} {l : List HV} {v : Value} (h : rel G (.list t sz l) v) : ∃ news, Src P G w sz v l news := by
  rcases (rel_list h).imp id or_comm.1 with ⟨rfl, rfl, _⟩ | ⟨rfl, _, a, rfl⟩ | ⟨b, o, c, rfl, _, ha, _⟩
  · exact ⟨[], fun w' => by simp [Builtin.lenOf], fun w' _ => by simp [Builtin.firstCells], by simp, by simp, fun _ _ _ _ _ => by simp only [relAts]⟩
  · exact ⟨[], fun w' => by simp [Builtin.lenOf], fun w' _ => run_firstCells_some w' sz 0 a 0 0 [] (by simp) (fun j u e => by simp at e), by simp, by simp, fun _ _ _ _ _ => by simp only [relAts]⟩
  · obtain ⟨news, n1, n2, n3, n4⟩ := relAts_cells ha
    refine ⟨news, fun w' => by simp [Builtin.lenOf], fun w' hw => ?_, n1, n3, n4⟩
    refine run_firstCells_some w' sz l.length ⟨b, o, none⟩ l.length c news n1 fun j u e => ?_
    rw [add_plain, cell_of_heap hw]
    have hj := (List.getElem?_eq_some_iff.1 e).1
    have := n2 j hj
    rw [e] at this
    exact hs.kw _ _ _ this
theorem src_nil (P : Program) (G : Ghost) (w : World) (sz : Nat) : Src P G w sz (.slice none 0 0) [] [] :=
  ⟨fun w' => by simp [Builtin.lenOf], fun w' _ => by simp [Builtin.firstCells], by simp, by simp, fun _ _ _ _ _ => by simp only [relAts]⟩
theorem relAts_bytes (G : Ghost) (rd : Nat → Option Value) : ∀ (l : List UInt8) (o : Nat), (∀ j, j < l.length → rd (o + j) = (l.map fun b => Value.int .u8 (b.toNat : Int))[j]?) → relAts G (l.map fun b => HV.v (.int .u8 (b.toNat : Int))) rd o 1
  | [], o, _ => by simp [relAts]
  | b :: l, o, h => by
    simp only [List.map_cons, relAts]
    refine ⟨⟨[.int .u8 b.toNat], rfl, by simp [HV.kd], fun j hj => ?_, by simp [relC, vkd]⟩, relAts_bytes G rd l (o + 1) fun j hj => ?_⟩
    · have : j = 0 := by omega
      subst this
      simpa using h 0 (by simp)
    · have := h (j + 1) (by simpa using hj)
      rw [show o + 1 + j = o + (j + 1) from by omega, this]
      simp
theorem src_string (P : Program) (G : Ghost) (w : World) (b : ByteArray) : Src P G w 1 (.string b) (b.data.toList.map fun x => .v (.int .u8 x.toNat)) (b.data.toList.map fun x => .int .u8 x.toNat) := by
  have hl : (b.data.toList.map fun x => HV.v (.int .u8 (x.toNat : Int))).length = b.size := by simp
  refine ⟨fun w' => by simp [Builtin.lenOf], fun w' _ => ?_, by simp, fun u hu => ?_, fun G' rd o _ h => relAts_bytes G' rd _ o fun j hj => by simpa using h j (by simpa using hj)⟩
  · rw [hl]
    simp only [Builtin.firstCells, Sem.run_pure, Result.ok.injEq, and_true]
    have : b.extract 0 b.size = b := ByteArray.extract_zero_size
    rw [this]
    apply Array.toList_inj.1
    simp
  · obtain ⟨x, _, rfl⟩ := List.mem_map.1 hu
    rfl

def capOf (w : World) (need old : Nat) (e : TypeId) : Nat := (Question.appendCap need old e).cut (w.tape w.drawn (.appendCap need old e))
theorem capOf_ge (w : World) (need old : Nat) (e : TypeId) : need ≤ capOf w need old e := by simp [capOf, Question.cut]

theorem run_append_new {P : Program} {w : World} {t u ty e : TypeId} {d : TyD} {du : TypeDesc} (ht : ∀ w : World, (underlying t).run P w = .ok (.slice e) w) (hu : ∀ w : World, (underlying u).run P w = .ok du w) (hdu : du = .string ∨ ∃ e', du = .slice e') (hd : TyOK P e d)
    {base : Option Addr} {n c : Nat} {v : Value} {olds news : List Value} {ys : List HV} {G : Ghost}
    (hold : ∀ w', w'.heap = w.heap → (Builtin.firstCells d.size n (.slice base n c)).run P w' = .ok olds.toArray w') (hsrc : Src P G w d.size v ys news)
    (hc : c < n + ys.length) (hb : 0 < d.bytes) (hfit : (n + ys.length) * d.bytes ≤ 140737488355328) :
    (Builtin.append_ #[t, u] ty #[.slice base n c, v]).run P w =
      .ok (.slice (some ⟨w.heap.size, 0, none⟩) (n + ys.length) (capOf w (n + ys.length) c e))
        (World.pushed (w.drew) (.cells (olds.toArray ++ news.toArray ++ Builtin.zeroCells d.zero.cells (capOf w (n + ys.length) c e - (n + ys.length))) e)) := by
  have hsz : n + ys.length ≤ 140737488355328 := by
    have : (n + ys.length) * 1 ≤ (n + ys.length) * d.bytes := Nat.mul_le_mul_left _ hb
    omega
  have hcap := growslice_fits (need := n + ys.length) (old := c) (bytes := d.bytes) hc (by omega)
  obtain ⟨i, hi, hib⟩ := hd.info (w := w)
  have hinfo : ∀ w : World, (typeInfo e).run P w = .ok i w := fun w' => by
    have hq := hd
    obtain ⟨i', u', e1, _⟩ := hq
    have a1 := run_typeInfo (P := P) w e1
    rw [hi] at a1
    cases a1
    exact run_typeInfo w' e1
  have hn : ¬ (n + ys.length ≤ c) := by omega
  have hx1 : ¬ (9223372036854775807 < (n : Int) + (ys.length : Int) ∧ i.bytes = 0) := by rintro ⟨_, h⟩; omega
  have hx2 : ¬ (281474976710656 < Builtin.nextslicecap (n + ys.length) c * i.bytes) := by rw [hib.2.1]; omega
  have hfo : (Question.appendCap (n + ys.length) c e).forced = false := rfl
  have ho' := hold (w.drew) rfl
  have hn' := hsrc.first (w.drew) rfl
  have hlen := hsrc.len
  have hsize := fun w => hd.sizeOf (w := w)
  have hzero := fun w => hd.zero (w := w)
  rcases hdu with rfl | ⟨e', rfl⟩ <;>
  · simp [Builtin.append_, ht, hu, hsize, hlen, hn, hinfo, hx1, hx2, hfo, ho', hn', hzero, newRow]
    have hap : ∀ z : Array Value, olds.toArray ++ (news.toArray ++ z) = (olds ++ news).toArray ++ z := fun z => by
      apply Array.ext'
      simp
    simp only [World.pushed, World.alloc, capOf, hap, and_self]

theorem run_append_room' {P : Program} {w : World} {t u ty e : TypeId} {d : TyD} {du : TypeDesc} (ht : ∀ w : World, (underlying t).run P w = .ok (.slice e) w) (hu : ∀ w : World, (underlying u).run P w = .ok du w) (hdu : du = .string ∨ ∃ e', du = .slice e') (hd : TyOK P e d)
    {g o n c : Nat} {cur : Array Value} {tt : TypeId} {v : Value} {news : List Value} {ys : List HV} {G : Ghost} (hg : w.heap[g]? = some (.cells cur tt (0, 0))) (hsrc : Src P G w d.size v ys news)
    (hroom : n + ys.length ≤ c) (hfit : o + n * d.size + news.length ≤ cur.size) :
    (Builtin.append_ #[t, u] ty #[.slice (some ⟨g, o, none⟩) n c, v]).run P w =
      .ok (.slice (some ⟨g, o, none⟩) (n + ys.length) c) (w.setRow g (cur.toList.take (o + n * d.size) ++ news ++ cur.toList.drop (o + n * d.size + news.length)).toArray) := by
  have hst := run_storeCells_at P g (o + n * d.size) tt news 0 cur w hg (by simpa using hfit) (fun u hu => vkd_oneCell (hsrc.one u hu))
  simp only [Nat.add_zero] at hst
  have hn' := hsrc.first w rfl
  have hlen := hsrc.len
  have hsize := fun w => hd.sizeOf (w := w)
  rcases hdu with rfl | ⟨e', rfl⟩ <;> simp [Builtin.append_, ht, hu, hsize, hlen, hroom, hn', add_plain, hst]
theorem run_append_none {P : Program} {w : World} {t u ty e : TypeId} {d : TyD} {du : TypeDesc} (ht : ∀ w : World, (underlying t).run P w = .ok (.slice e) w) (hu : ∀ w : World, (underlying u).run P w = .ok du w) (hdu : du = .string ∨ ∃ e', du = .slice e') (hd : TyOK P e d)
    {base : Option Addr} {n c : Nat} {v : Value} {news : List Value} {G : Ghost} (hsrc : Src P G w d.size v [] news) (hn : n ≤ c) :
    (Builtin.append_ #[t, u] ty #[.slice base n c, v]).run P w = .ok (.slice base n c) w := by
  have hn' := hsrc.first w rfl
  have hlen := hsrc.len
  have hsize := fun w => hd.sizeOf (w := w)
  have hnil : news = [] := by have := hsrc.length; simpa using this
  subst hnil
  simp only [List.length_nil] at hn' hlen
  rcases hdu with rfl | ⟨e', rfl⟩ <;> cases base <;> simp [Builtin.append_, ht, hu, hsize, hlen, hn, hn', storeCells]

end Go.Proofs.Hk

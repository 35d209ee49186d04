import Derived.Test.YtmgcmljldggllaaH10
set_option linter.unusedSimpArgs false
set_option linter.unusedVariables false
namespace Go.Proofs.Hk
open Go

/-- A row that has moved to a new block, or is new. -/
def Ghost.grown (G : Ghost) (r n B e ce lim : Nat) (vs : Array Value) : Ghost :=
  { K := fun b o => if b = B then (if o < e then vs[o]? else none) else G.K b o
    om := G.om
    top := fun q => if q = r then some ⟨n, B, e, ce⟩ else G.top q
    role := fun b => if b = B then some r else G.role b
    lim := lim }

theorem post_grown {G : Ghost} {s s' : HS} {w w' : World} (h : SRel G s w) (hw : w'.heap = w.heap) {r n e ce lim : Nat} {vs : Array Value} {t : TypeId} (ho : w'.os = w.os) (ht : w'.tape = w.tape) (hp : w'.output = w.output)
    (hr : (G.lim ≤ r ∧ lim = r + 1 ∧ s' = (r, .tok n) :: s) ∨ (r ∈ keys s ∧ lim = G.lim ∧ s' = hset s r (.tok n) ∧ ∃ tp, G.top r = some tp ∧ tp.n < n))
    (hce : ce ≤ vs.size) :
    Post s G w s' (G.grown r n w.heap.size e ce lim vs) (World.pushed w' (.cells vs t)) := by
  have hsz : w'.heap.size = w.heap.size := by rw [hw]
  have hlt : ∀ b, b < w.heap.size → (World.pushed w' (.cells vs t)).heap[b]? = w.heap[b]? := fun b hb => by rw [pushed_lt w' _ (by omega), hw]
  have hnew : (World.pushed w' (.cells vs t)).heap[w.heap.size]? = some (.cells vs t (0, 0)) := by rw [← hsz]; exact pushed_new w' _
  have hrl : r < lim ∧ G.lim ≤ lim := by
    rcases hr with ⟨h1, h2, _⟩ | ⟨h1, h2, _⟩
    · omega
    · have := h.lt_key h1; omega
  have le : G.Le (G.grown r n w.heap.size e ce lim vs) := by
    refine ⟨fun b o v e' => ?_, fun _ _ e' => e', fun q tp e' => ?_⟩
    · have := h.K_lt e'
      simp only [Ghost.grown]
      rw [if_neg (by omega)]; exact e'
    · simp only [Ghost.grown]
      split
      · rename_i hq
        subst hq
        rcases hr with ⟨h1, _⟩ | ⟨_, _, _, tp', e2, hlt'⟩
        · have := h.lt_top e'; omega
        · rw [e'] at e2
          cases e2
          exact ⟨_, rfl, by simp only []; omega, fun hq => by simp only [] at hq; omega⟩
      · exact ⟨tp, e', Nat.le_refl _, fun _ => rfl⟩
  have hothers : ∀ q x, q ≠ r → (q, x) ∈ s → holds (G.grown r n w.heap.size e ce lim vs) (World.pushed w' (.cells vs t)) q x := fun q x hne hm => by
    have ho := h.holds q x hm
    cases x with
    | cells cs t' =>
      obtain ⟨b, us, e1, ro, hh, hc, hK⟩ := ho
      have hb := (h.role b q ro).1
      exact ⟨b, us, e1, by simp only [Ghost.grown]; rw [if_neg (by omega)]; exact ro, by rw [hlt b hb]; exact hh, relCs.mono le _ _ hc, fun o => by simp only [Ghost.grown]; rw [if_neg (by omega)]; exact hK o⟩
    | map es =>
      obtain ⟨b, ents, cl, e1, ro, hh, hc⟩ := ho
      have hb := (h.role b q ro).1
      exact ⟨b, ents, cl, e1, by simp only [Ghost.grown]; rw [if_neg (by omega)]; exact ro, by rw [hlt b hb]; exact hh, relMap.mono le _ _ hc⟩
    | tok m =>
      obtain ⟨tp, e1, hn, hq⟩ := ho
      refine ⟨tp, by simp only [Ghost.grown]; rw [if_neg hne]; exact e1, hn, fun hlt' => ?_⟩
      obtain ⟨ro, us, t', hh, hc, hK⟩ := hq hlt'
      have hb := (h.role _ q ro).1
      exact ⟨by simp only [Ghost.grown]; rw [if_neg (by omega)]; exact ro, us, t', by rw [hlt _ hb]; exact hh, hc, fun o ho => by simp only [Ghost.grown]; rw [if_neg (by omega)]; exact hK o ho⟩
    | void =>
      obtain ⟨h0, h1, h2, h3⟩ := ho
      exact ⟨Nat.lt_of_lt_of_le h0 hrl.2, h1, by simp only [Ghost.grown]; rw [if_neg hne]; exact h2, fun b => by
        simp only [Ghost.grown]
        split
        · simp; exact fun e => hne e.symm
        · exact h3 b⟩
  have hmine : holds (G.grown r n w.heap.size e ce lim vs) (World.pushed w' (.cells vs t)) r (.tok n) := by
    refine ⟨⟨n, w.heap.size, e, ce⟩, by simp [Ghost.grown], rfl, fun _ => ⟨by simp [Ghost.grown], vs, t, hnew, hce, fun o ho => ?_⟩⟩
    simp only [Ghost.grown, if_true] at ho ⊢
    rw [if_neg (by omega)]
  have hsub : ∀ q, q ∈ keys s' → q ∈ keys s ∨ G.lim ≤ q := fun q hq => by
    rcases hr with ⟨h1, _, rfl⟩ | ⟨_, _, rfl, _⟩
    · simp only [keys, List.map_cons, List.mem_cons] at hq
      rcases hq with rfl | hq
      · exact .inr h1
      · exact .inl hq
    · rw [hset_keys] at hq; exact .inl hq
  refine ⟨⟨fun b o v e' => ?_, ?_, fun q x hq => ?_, fun q hq => ?_, fun b q e' => ?_⟩, ⟨le, by simp only [World.pushed, Array.size_push]; omega, fun b hb _ => ⟨hlt b hb, by simp only [Ghost.grown]; rw [if_neg (by omega)], fun o => by simp only [Ghost.grown]; rw [if_neg (by omega)]⟩, fun q tp e' hq => ?_, hrl.2, ho, ht, hp, fun q h0 hk h1 h2 h3 => by
    have hne : q ≠ r := fun e => by
      subst e
      rcases hr with ⟨h1, _⟩ | ⟨hk', _⟩
      · omega
      · exact hk hk'
    exact ⟨h1, by simp only [Ghost.grown]; rw [if_neg hne]; exact h2, fun b => by
      simp only [Ghost.grown]
      split
      · simp; exact fun e => hne e.symm
      · exact h3 b⟩⟩, hsub⟩
  · simp only [Ghost.grown] at e'
    split at e'
    · rename_i hb
      subst hb
      split at e'
      · simp only [World.cell?, hnew, Option.isSome_none, Bool.false_eq_true, if_false]; exact e'
      · cases e'
    · have h1 := h.kw b o v e'
      have hb := h.K_lt e'
      simp only [World.cell?, hlt b hb] at h1 ⊢
      exact h1
  · rcases hr with ⟨h1, _, rfl⟩ | ⟨_, _, rfl, _⟩
    · simp only [keys, List.map_cons, List.nodup_cons]
      exact ⟨fun hm => by have := h.lt_key hm; omega, h.keys⟩
    · rw [hset_keys]; exact h.keys
  · rcases hr with ⟨h1, _, rfl⟩ | ⟨_, _, rfl, _⟩
    · rcases List.mem_cons.1 hq with hq1 | hq1
      · cases hq1; exact hmine
      · have hk : q < G.lim := h.lt_key (List.mem_map.2 ⟨_, hq1, rfl⟩)
        exact hothers q x (by omega) hq1
    · rcases hset_mem h.keys hq with ⟨rfl, rfl⟩ | ⟨hne, hm⟩
      · exact hmine
      · exact hothers q x hne hm
  · simp only [Ghost.grown] at hq ⊢
    have := h.fresh q (by omega)
    rw [if_neg (by omega)]
    exact this
  · simp only [Ghost.grown, World.pushed, Array.size_push] at e' ⊢
    split at e'
    · rename_i hb; subst hb; cases e'; exact ⟨by omega, hrl.1⟩
    · have := h.role b q e'; omega
  · simp only [Ghost.grown]
    rw [if_neg ?_]
    · exact e'
    · rintro rfl
      rcases hr with ⟨h1, _⟩ | ⟨h1, _⟩
      · have := h.lt_top e'; omega
      · exact hq h1

theorem zeroCells_size (z : Array Value) (n : Nat) : (Builtin.zeroCells z n).size = n * z.size := by simp [Builtin.zeroCells]

/-- The new row's elements. -/
theorem relAts_new {G G' : Ghost} (le : G.Le G') {sz : Nat} {rd' : Nat → Option Value} {l ys : List HV} {news rest : List Value} {olds : List Value}
    (ho : olds.length = l.length * sz) (hold : ∀ (G' : Ghost) (rd' : Nat → Option Value) (o' : Nat), G.Le G' → (∀ j, j < olds.length → rd' (o' + j) = olds[j]?) → relAts G' l rd' o' sz)
    (hn : news.length = ys.length * sz) (hnew : ∀ (G' : Ghost) (rd : Nat → Option Value) (o : Nat), G.Le G' → (∀ j, j < news.length → rd (o + j) = news[j]?) → relAts G' ys rd o sz)
    (hr : ∀ j, j < (l.length + ys.length) * sz → rd' j = (olds ++ news ++ rest)[j]?) : relAts G' (l ++ ys) rd' 0 sz := by
  have hm : (l.length + ys.length) * sz = olds.length + news.length := by rw [Nat.add_mul, ho, hn]
  refine relAts_append (hold G' rd' 0 le fun j hj => ?_) (hnew G' rd' _ le fun j hj => ?_)
  · rw [Nat.zero_add, hr j (by omega), List.append_assoc, List.getElem?_append_left (by omega)]
  · rw [Nat.zero_add, hr _ (by omega), ← ho, List.append_assoc, List.getElem?_append_right (by omega), List.getElem?_append_left (by omega)]
    congr 1; omega

end Go.Proofs.Hk

namespace Go.Proofs.Hk
open Go

theorem relCs_of {G : Ghost} : ∀ {l : List HV} {us : List Value}, l.length = us.length → (∀ (i : Nat) (x : HV) (u : Value), l[i]? = some x → us[i]? = some u → x.kd = .one ∧ relC G x [u]) → relCs G l us
  | [], [], _, _ => by simp [relCs]
  | [], _ :: _, h, _ => by simp at h
  | _ :: _, [], h, _ => by simp at h
  | x :: l, u :: us, h, k => by
    simp only [relCs]
    exact ⟨u, us, rfl, k 0 x u rfl rfl, relCs_of (by simpa using h) fun i y v h1 h2 => k (i + 1) y v (by simpa using h1) (by simpa using h2)⟩
theorem flatten_replicate_get {α : Type} (l : List α) (hl : 0 < l.length) : ∀ (n i : Nat), (List.replicate n l).flatten[i]? = if i < n * l.length then l[i % l.length]? else none
  | 0, i => by simp
  | n + 1, i => by
    simp only [List.replicate_succ, List.flatten_cons]
    by_cases h : i < l.length
    · rw [List.getElem?_append_left h, if_pos (by rw [Nat.succ_mul]; omega), Nat.mod_eq_of_lt h]
    · rw [List.getElem?_append_right (by omega), flatten_replicate_get l hl n]
      have e : (i - l.length) % l.length = i % l.length := by
        conv => rhs; rw [show i = (i - l.length) + l.length from by omega, Nat.add_mod_right]
      rw [e]
      have : (i - l.length < n * l.length) = (i < (n + 1) * l.length) := by rw [Nat.succ_mul]; simp; omega
      simp only [this]
theorem hrep_length (n : Nat) (l : List HV) : (hrep n l).length = n * l.length := by
  unfold hrep
  split
  · simp
  · simp
theorem hrep_eq (n : Nat) (l : List HV) : hrep n l = (List.replicate n l).flatten := by
  unfold hrep
  split
  · rename_i z
    induction n with
    | zero => rfl
    | succ n ih => simp [List.replicate_succ, ← ih]
  · rfl
theorem rep_rel {G : Ghost} {z : HV} {d : Value} (hz : rel G z d) (hk : z.kd ≠ .tup) (n : Nat) (hs : 0 < d.cells.size) : relCs G (hrep n z.cells) ((Array.range (n * d.cells.size)).map (fun x => d.cells[x % d.cells.size]!)).toList := by
  have hc := rel_cells hz hk
  have hl := relCs_length hc
  simp only [Array.length_toList] at hl
  refine relCs_of (by rw [hrep_length]; simp [hl]) fun i x u h1 h2 => ?_
  rw [hrep_eq, flatten_replicate_get _ (by omega)] at h1
  split at h1
  · rename_i hi
    have hm : i % d.cells.size < d.cells.size := Nat.mod_lt _ hs
    rw [← hl] at h1
    obtain ⟨v, e, h3⟩ := relCs_get4 hc _ _ h1
    have : u = v := by
      have e1 : d.cells[i % d.cells.size]! = v := by
        have : d.cells[i % d.cells.size]? = some v := by simpa using e
        rw [getElem!_def, this]
      simp only [Array.toList_map, Array.toList_range, List.getElem?_map] at h2
      rw [List.getElem?_range (by rw [hl]; exact hi)] at h2
      simp only [Option.map_some, Option.some.injEq] at h2
      rw [← h2, e1]
    subst this
    exact h3
  · cases h1

theorem zero_ok0 (c : Cx) {G : Ghost} {t : TypeId} {z : HV} (h : hzero c t = some z) : ∃ d, c.ty t = some d ∧ rel G z d.zero := by
  unfold hzero at h
  split at h
  · cases h
  · rename_i d hd
    refine ⟨d, hd, ?_⟩
    split at h
    · rename_i cs hz
      split at h
      · rename_i hone
        cases h
        rw [hz]
        simpa using rel_agg (relCs_map_v G cs.toList fun u hu => by
          have := (List.all_eq_true.1 hone) u hu
          cases u <;> first | rfl | cases this)
      · cases h
    · cases h
    · rename_i v h1 h2
      cases h
      exact rel_v G (h := by
        cases hv : d.zero <;> first | rfl | exact absurd hv (h1 _) | exact absurd hv (h2 _))
theorem relC_cells {G : Ghost} {x : HV} {cs : List Value} (h : relC G x cs) (hk : x.kd ≠ .tup) : relCs G x.cells cs := by
  by_cases ho : x.kd = .one
  · obtain ⟨u, rfl, _⟩ := relC_one h ho
    have : x.cells = [x] := by cases x <;> first | rfl | cases ho
    rw [this]
    simp only [relCs]
    exact ⟨u, [], rfl, ⟨ho, h⟩, rfl⟩
  · cases x with
    | agg l => simpa [HV.cells, relC] using h
    | tup l => exact absurd rfl hk
    | _ => exact absurd rfl ho
theorem relAts_flatMap {G : Ghost} {sz : Nat} {rd : Nat → Option Value} : ∀ {l : List HV} {o : Nat} {us : List Value}, relAts G l rd o sz → us.length = l.length * sz → (∀ j, j < us.length → rd (o + j) = us[j]?) → relCs G (l.flatMap HV.cells) us
  | [], o, us, _, hl, _ => by
    have : us = [] := List.length_eq_zero_iff.1 (by simpa using hl)
    subst this
    simp [relCs]
  | x :: xs, o, us, h, hl, hr => by
    simp only [relAts] at h
    obtain ⟨⟨cs, hc, hk, hx, hxr⟩, h2⟩ := h
    have hlen : (x :: xs).length * sz = sz + xs.length * sz := by rw [List.length_cons, Nat.succ_mul, Nat.add_comm]
    rw [hlen] at hl
    have e : us = cs ++ us.drop sz := by
      refine List.ext_getElem? fun j => ?_
      by_cases hj : j < sz
      · rw [List.getElem?_append_left (by omega), ← hx j hj, hr j (by omega)]
      · rw [List.getElem?_append_right (by omega), List.getElem?_drop, hc]
        congr 1; omega
    rw [e, List.flatMap_cons]
    refine relCs_append (relC_cells hxr hk) (relAts_flatMap h2 (by simp; omega) fun j hj => ?_)
    rw [Nat.add_assoc, hr (sz + j) (by simp at hj; omega), List.getElem?_drop]
end Go.Proofs.Hk

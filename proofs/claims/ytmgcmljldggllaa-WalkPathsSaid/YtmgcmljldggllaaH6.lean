import Derived.Test.YtmgcmljldggllaaH5
set_option linter.unusedSimpArgs false
set_option linter.unusedVariables false
namespace Go.Proofs.Hk
open Go

/-! New blocks. -/
def World.pushed (w : World) (o : Obj) : World := { w with heap := w.heap.push o }
theorem pushed_lt (w : World) (o : Obj) {b : Nat} (h : b < w.heap.size) : (World.pushed w o).heap[b]? = w.heap[b]? := by
  simp only [World.pushed, Array.getElem?_push]
  rw [if_neg (by omega)]
theorem pushed_new (w : World) (o : Obj) : (World.pushed w o).heap[w.heap.size]? = some o := by
  show (w.heap.push o)[w.heap.size]? = some o
  exact Array.getElem?_push_size
theorem pushed_cell (w : World) (o : Obj) {b off : Nat} {v : Value} (h : w.cell? ⟨b, off, none⟩ = some v) : (World.pushed w o).cell? ⟨b, off, none⟩ = some v := by
  have hb : b < w.heap.size := World.block_lt_of_cell? w ⟨b, off, none⟩ h
  simp only [World.cell?] at h ⊢
  rw [pushed_lt w o hb]; exact h
theorem SRel.K_lt {G : Ghost} {s : HS} {w : World} (h : SRel G s w) {b o : Nat} {v : Value} (e : G.K b o = some v) : b < w.heap.size := World.block_lt_of_cell? w ⟨b, o, none⟩ (h.kw b o v e)
theorem SRel.K_new {G : Ghost} {s : HS} {w : World} (h : SRel G s w) {b : Nat} (hb : w.heap.size ≤ b) (o : Nat) : G.K b o = none := by
  cases e : G.K b o with
  | none => rfl
  | some v => have := h.K_lt e; omega
theorem SRel.role_new {G : Ghost} {s : HS} {w : World} (h : SRel G s w) {b : Nat} (hb : w.heap.size ≤ b) : G.role b = none := by
  cases e : G.role b with
  | none => rfl
  | some r => have := (h.role b r e).1; omega

theorem holds.agree {s : HS} {G G' : Ghost} {w w' : World} (h : SRel G s w) (le : G.Le G')
    (hb : ∀ b, b < w.heap.size → w'.heap[b]? = w.heap[b]? ∧ G'.role b = G.role b ∧ ∀ o, G'.K b o = G.K b o)
    (ht : ∀ r tp, G.top r = some tp → G'.top r = some tp) (hv : ∀ r, r < G.lim → G.om r = none → G.top r = none → (∀ b, G.role b ≠ some r) → r < G'.lim ∧ G'.om r = none ∧ G'.top r = none ∧ ∀ b, G'.role b ≠ some r) {r : Nat} {x : Res} (k : holds G w r x) : holds G' w' r x := by
  cases x with
  | cells cs t =>
    obtain ⟨b, vs, e, ro, hh, hc, hK⟩ := k
    obtain ⟨h1, h2, h3⟩ := hb b (h.role b r ro).1
    exact ⟨b, vs, le.om r b e, h2.trans ro, h1.trans hh, relCs.mono le _ _ hc, fun o => (h3 o).trans (hK o)⟩
  | map es =>
    obtain ⟨b, ents, cl, e, ro, hh, hc⟩ := k
    obtain ⟨h1, h2, h3⟩ := hb b (h.role b r ro).1
    exact ⟨b, ents, cl, le.om r b e, h2.trans ro, h1.trans hh, relMap.mono le _ _ hc⟩
  | tok n =>
    obtain ⟨tp, e, hn, hq⟩ := k
    refine ⟨tp, ht r tp e, hn, fun hlt => ?_⟩
    obtain ⟨ro, vs, t, hh, hce, hK⟩ := hq hlt
    obtain ⟨h1, h2, h3⟩ := hb tp.b (h.role _ r ro).1
    exact ⟨h2.trans ro, vs, t, h1.trans hh, hce, fun o ho => (h3 o).trans (hK o ho)⟩
  | void =>
    obtain ⟨a, b, c, d⟩ := k
    exact hv r a b c d

/-- A new object. -/
def Ghost.newObj (G : Ghost) (b : Nat) : Ghost :=
  { G with om := fun r => if r = G.lim then some b else G.om r, role := fun b' => if b' = b then some G.lim else G.role b', lim := G.lim + 1 }
theorem Ghost.newObj_le {G : Ghost} {s : HS} {w : World} (h : SRel G s w) (b : Nat) : G.Le (G.newObj b) :=
  ⟨fun _ _ _ e => e, fun r b' e => by
    have := h.lt_om e
    simp only [Ghost.newObj]
    rw [if_neg (by omega)]; exact e, fun _ t e => ⟨t, e, Nat.le_refl _, fun _ => rfl⟩⟩
theorem Ghost.newObj_voids (G : Ghost) (b : Nat) (r : Nat) (h0 : r < G.lim) (h1 : G.om r = none) (h2 : G.top r = none) (h3 : ∀ b, G.role b ≠ some r) : r < (G.newObj b).lim ∧ (G.newObj b).om r = none ∧ (G.newObj b).top r = none ∧ ∀ b', (G.newObj b).role b' ≠ some r := by
  simp only [Ghost.newObj]
  refine ⟨by omega, by rw [if_neg (by omega)]; exact h1, h2, fun b' => ?_⟩
  split
  · simp; omega
  · exact h3 b'
theorem post_newObj {G : Ghost} {s : HS} {w : World} (h : SRel G s w) (o : Obj) (x : Res) (hx : holds (G.newObj w.heap.size) (World.pushed w o) G.lim x) :
    Post s G w ((G.lim, x) :: s) (G.newObj w.heap.size) (World.pushed w o) := by
  have le := Ghost.newObj_le h w.heap.size
  have hb : ∀ b, b < w.heap.size → (World.pushed w o).heap[b]? = w.heap[b]? ∧ (G.newObj w.heap.size).role b = G.role b ∧ ∀ o, (G.newObj w.heap.size).K b o = G.K b o := fun b hb =>
    ⟨pushed_lt w o hb, by simp only [Ghost.newObj]; rw [if_neg (by omega)], fun _ => rfl⟩
  refine ⟨⟨fun b off v e => pushed_cell w o (h.kw b off v e), ?_, fun r y hy => ?_, fun r hr => ?_, fun b r e => ?_⟩, ⟨le, by simp [World.pushed], fun b hlt _ => hb b hlt, fun r tp e _ => e, by simp [Ghost.newObj], rfl, rfl, rfl, fun r h0 _ h1 h2 h3 => (Ghost.newObj_voids G _ r h0 h1 h2 h3).2⟩, fun r hr => ?_⟩
  · simp only [keys, List.map_cons, List.nodup_cons]
    exact ⟨fun hm => by have := h.lt_key hm; omega, h.keys⟩
  · rcases List.mem_cons.1 hy with hy | hy
    · cases hy; exact hx
    · exact (h.holds r y hy).agree h le hb (fun _ _ e => e) (Ghost.newObj_voids G _)
  · simp only [Ghost.newObj] at hr ⊢
    rw [if_neg (by omega)]
    exact h.fresh r (by omega)
  · simp only [Ghost.newObj, World.pushed, Array.size_push] at e ⊢
    split at e
    · rename_i hb; subst hb; cases e; omega
    · have := h.role b r e; omega
  · simp only [keys, List.map_cons, List.mem_cons] at hr
    rcases hr with rfl | hr
    · exact .inr (Nat.le_refl _)
    · exact .inl hr

theorem new_ok (P : Program) {s : HS} {G : Ghost} {w : World} (hs : SRel G s w) (t : TypeId) {x : HV} {u : Value} (hx : rel G x u) :
    ResOK P s G w ((do pure (Next.value (← (do pure (Value.pointer (some (← newVar t u)))))) : Sem Next).run P w) (hnew s t x) := by
  unfold hnew
  split
  case h_2 => trivial
  rename_i hk
  have hk := kdOk_ne hk
  rw [forceL_eq]
  intro K hK
  have hc := rel_cells hx hk
  refine ⟨.ptr G.lim 0, (G.lim, .cells x.cells t) :: s, hK G.lim (fun hm => by have := hs.lt_key hm; omega), ?_⟩
  refine ⟨.pointer (some ⟨w.heap.size, 0, none⟩), World.pushed w (.cells u.cells t), G.newObj w.heap.size, .inl ?_, ptr_rel (by simp [Ghost.newObj]), ?_⟩
  · simp [newVar, newRow, Go.newObj, Sem.run, World.pushed]
  · refine post_newObj hs _ _ ⟨w.heap.size, u.cells, by simp [Ghost.newObj], by simp [Ghost.newObj], pushed_new w _, relCs.mono (Ghost.newObj_le hs _) _ _ hc, fun o => ?_⟩
    exact hs.K_new (Nat.le_refl _) o

/-! Stores. -/
theorem hset_keys (s : HS) (r : Nat) (y : Res) : keys (hset s r y) = keys s := by
  induction s with
  | nil => simp only [hset_nil]
  | cons p s ih =>
    obtain ⟨q, x⟩ := p
    simp only [hset_cons]
    split
    · rfl
    · simp only [keys, List.map_cons] at ih ⊢; rw [ih]
theorem hset_mem {s : HS} {r : Nat} {y : Res} (hn : (keys s).Nodup) : ∀ {q : Nat} {x : Res}, (q, x) ∈ hset s r y → (q = r ∧ x = y) ∨ (q ≠ r ∧ (q, x) ∈ s) := by
  induction s with
  | nil => intro q x h; simp [hset_nil] at h
  | cons p s ih =>
    obtain ⟨q', x'⟩ := p
    simp only [keys, List.map_cons, List.nodup_cons] at hn
    intro q x h
    simp only [hset_cons] at h
    split at h
    · rename_i e
      subst e
      rcases List.mem_cons.1 h with h | h
      · cases h; exact .inl ⟨rfl, rfl⟩
      · exact .inr ⟨fun e => hn.1 (List.mem_map.2 ⟨_, h, by rw [e]⟩), List.mem_cons_of_mem _ h⟩
    · rename_i e
      rcases List.mem_cons.1 h with h | h
      · cases h; exact .inr ⟨e, List.mem_cons_self⟩
      · rcases ih hn.2 h with ⟨h1, h2⟩ | ⟨h1, h2⟩
        · exact .inl ⟨h1, h2⟩
        · exact .inr ⟨h1, List.mem_cons_of_mem _ h2⟩

theorem setRow_get (w : World) (g : Nat) (cur cur' : Array Value) (t : TypeId) (h : w.heap[g]? = some (.cells cur t (0, 0))) (b : Nat) : (w.setRow g cur').heap[b]? = if b = g then some (.cells cur' t (0, 0)) else w.heap[b]? := by
  by_cases e : b = g
  · subst e; rw [if_pos rfl]; exact setRow_heap w b cur cur' t _ h
  · rw [if_neg e]; simp [World.setRow, Array.getElem?_modify, Ne.symm e]
/-- A block of an owner is written; what is told of its cells may come to be told. -/
theorem post_write {G G' : Ghost} {s : HS} {w : World} (h : SRel G s w) {b r : Nat} {cur cur' : Array Value} {t : TypeId} {x : Res} (hb : w.heap[b]? = some (.cells cur t (0, 0))) (ro : G.role b = some r) (hr : r ∈ keys s)
    (hx : holds G' (w.setRow b cur') r x) (le : G.Le G') (hK : ∀ b', b' ≠ b → ∀ o, G'.K b' o = G.K b' o) (hKb : ∀ o v, G'.K b o = some v → cur'[o]? = some v)
    (hrole : G'.role = G.role) (hom : G'.om = G.om) (htop : ∀ q, q ≠ r → G'.top q = G.top q) (hlim : G'.lim = G.lim) (hsz : (w.setRow b cur').heap.size = w.heap.size) :
    Post s G w (hset s r x) G' (w.setRow b cur') := by
  have get := setRow_get w b cur cur' t hb
  refine ⟨⟨fun b' o v e => ?_, ?_, fun q y hy => ?_, fun q hq => ?_, fun b' q e => ?_⟩, ⟨le, by rw [hsz]; exact Nat.le_refl _, fun b' hlt hq => ?_, fun q tp e hq => ?_, by rw [hlim]; exact Nat.le_refl _, rfl, rfl, rfl, fun q _ hk h1 h2 h3 => ⟨by rw [hom]; exact h1, by rw [htop q (fun e => hk (e ▸ hr))]; exact h2, fun b' => by rw [hrole]; exact h3 b'⟩⟩, fun q hq => ?_⟩
  · by_cases e' : b' = b
    · subst e'
      simp only [World.cell?, get, if_true, Option.isSome_none, Bool.false_eq_true, if_false]
      exact hKb o v e
    · rw [hK b' e'] at e
      have := h.kw b' o v e
      simp only [World.cell?, get, if_neg e'] at this ⊢
      exact this
  · rw [hset_keys]; exact h.keys
  · rcases hset_mem h.keys hy with ⟨rfl, rfl⟩ | ⟨hne, hm⟩
    · exact hx
    · have ho := h.holds q y hm
      have other : ∀ b', G.role b' = some q → b' ≠ b := fun b' e e' => by subst e'; rw [ro] at e; cases e; exact hne rfl
      cases y with
      | cells cs t' =>
        obtain ⟨b', vs, e, ro', hh, hc, hk⟩ := ho
        have := other b' ro'
        exact ⟨b', vs, by rw [hom]; exact e, by rw [hrole]; exact ro', by rw [get, if_neg this]; exact hh, relCs.mono le _ _ hc, fun o => by rw [hK b' this]; exact hk o⟩
      | map es =>
        obtain ⟨b', ents, cl, e, ro', hh, hc⟩ := ho
        have := other b' ro'
        exact ⟨b', ents, cl, by rw [hom]; exact e, by rw [hrole]; exact ro', by rw [get, if_neg this]; exact hh, relMap.mono le _ _ hc⟩
      | tok n =>
        obtain ⟨tp, e, hn, hq⟩ := ho
        refine ⟨tp, by rw [htop q hne]; exact e, hn, fun hlt => ?_⟩
        obtain ⟨ro', vs, t', hh, hce, hk⟩ := hq hlt
        have := other tp.b ro'
        exact ⟨by rw [hrole]; exact ro', vs, t', by rw [get, if_neg this]; exact hh, hce, fun o ho => by rw [hK _ this]; exact hk o ho⟩
      | void =>
        obtain ⟨a, b', c, d⟩ := ho
        exact ⟨by rw [hlim]; exact a, by rw [hom]; exact b', by rw [htop q hne]; exact c, fun b' => by rw [hrole]; exact d b'⟩
  · rw [hlim] at hq
    have := h.fresh q hq
    refine ⟨by rw [hom]; exact this.1, ?_⟩
    have hne : q ≠ r := fun e => by have := h.lt_key hr; omega
    rw [htop q hne]; exact this.2
  · rw [hrole] at e
    have := h.role b' q e
    rw [hsz, hlim]; exact this
  · have hne : b' ≠ b := fun e => by subst e; exact hq r ro hr
    exact ⟨by rw [get, if_neg hne], by rw [hrole], hK b' hne⟩
  · rw [htop q (fun e => hq (e ▸ hr))]; exact e
  · rw [hset_keys] at hq; exact .inl hq

theorem setRow_size (w : World) (g : Nat) (cs : Array Value) : (w.setRow g cs).heap.size = w.heap.size := by simp [World.setRow]

theorem store_ok (c : Cx) {s : HS} {G : Ghost} {w : World} (hs : SRel G s w) (t : TypeId) {p x : HV} {u v : Value} (hp : rel G p u) (hx : rel G x v) :
    ResOK c.P s G w ((do Instr.storeAt t u v; pure Next.skip : Sem Next).run c.P w) (hstore c s t p x) := by
  unfold hstore
  split
  · trivial
  · rename_i d hd
    have ht := c.ty_ok t d hd
    split
    · rename_i r off
      obtain ⟨b, ho, e⟩ := rel_ptr hp
      subst e
      intro rx hg
      cases rx with
      | cells cs t' =>
        simp only []
        split
        case h_2 => trivial
        rename_i hchk
        simp only [Bool.and_eq_true, Nat.beq_eq] at hchk
        obtain ⟨hk, hl⟩ := hchk
        have hk := kdOk_ne hk
        rintro K ⟨hlen, hK⟩
        have hm := hget_mem hg
        obtain ⟨b', vs, ho', ro, hb, hcs, hKn⟩ := hs.holds r _ hm
        rw [ho] at ho'
        cases ho'
        have hxc := rel_cells hx hk
        have hvl : v.cells.toList.length = d.size := by rw [relCs_length hxc, hl]
        have hvs : vs.toList.length = cs.length := relCs_length hcs
        have run := run_storeCells_at c.P b off t' v.cells.toList 0 vs w hb (by simp only [Nat.add_zero]; rw [hvl]; simp at hvs; omega) (fun x hx => vkd_oneCell (relCs_one hxc x hx))
        refine ⟨_, _, hK, undef, w.setRow b (vs.toList.take off ++ v.cells.toList ++ vs.toList.drop (off + d.size)).toArray, G, .inr ⟨?_, rfl⟩, ⟨rfl, ?_⟩, ?_⟩
        · have hsz : ¬ v.cells.size ≠ d.size := by simp only [Array.length_toList] at hvl; omega
          simp only [Instr.storeAt, Instr.sureAddr, storeVar, Sem.run_bind, pure_bind, ht.sizeOf, Result.andThen_ok, hsz, if_false, run, Nat.add_zero, hvl]
          rfl
        · simp only [relC]; exact ⟨#[], rfl, by simp [relVs]⟩
        · refine post_write hs hb ro (List.mem_map.2 ⟨_, hm, rfl⟩) ?_ (.refl G) (fun _ _ _ => rfl) (fun o v e => by rw [hKn] at e; cases e) rfl rfl (fun _ _ => rfl) rfl (setRow_size ..)
          refine ⟨b, _, ho, ro, setRow_heap w b vs _ t' _ hb, ?_, hKn⟩
          exact relCs_append (relCs_append (relCs_take off hcs) hxc) (relCs_drop _ hcs)
      | map es => trivial
      | tok n => trivial
      | void => trivial
    · trivial

end Go.Proofs.Hk

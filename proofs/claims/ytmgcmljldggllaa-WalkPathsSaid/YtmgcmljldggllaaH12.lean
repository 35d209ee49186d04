import Derived.Test.YtmgcmljldggllaaH11
set_option linter.unusedSimpArgs false
set_option linter.unusedVariables false
namespace Go.Proofs.Hk
open Go

theorem more_ok (P : Program) {G : Ghost} {s : HS} {w : World} (hs : SRel G s w) {d : TyD} {y : HV} {v : Value} {ys : List HV} (hy : rel G y v) (h : hmore d y = some ys) : ∃ news, Src P G w d.size v ys news := by
  unfold hmore at h
  split at h
  · split at h
    · rename_i hz
      cases h
      rw [← Nat.eq_of_beq_eq_true hz]
      exact src_list P hs hy
    · cases h
  · cases h
    rw [rel_v_eq hy]
    exact ⟨[], src_nil P G w d.size⟩
  · split at h
    · rename_i hz
      cases h
      rw [rel_v_eq hy, Nat.eq_of_beq_eq_true hz]
      exact ⟨_, src_string P G w _⟩
    · cases h
  · cases h

theorem sliceElem_ok {c : Cx} {t : TypeId} {d : TyD} (h : sliceElem c t = some d) : ∃ e, TyOK c.P e d ∧ ∀ w, (underlying t).run c.P w = .ok (.slice e) w := by
  unfold sliceElem at h
  split at h
  · rename_i size bytes ag z e hd
    exact ⟨e, c.ty_ok e d h, fun w => (c.ty_ok t _ hd).slice rfl⟩
  · cases h
theorem isRow_ok {c : Cx} {t : TypeId} (h : isRow c t = true) : ∃ du, (du = .string ∨ ∃ e', du = .slice e') ∧ ∀ w, (underlying t).run c.P w = .ok du w := by
  unfold isRow at h
  split at h
  · rename_i size bytes ag z e hd
    exact ⟨_, .inr ⟨e, rfl⟩, fun w => (c.ty_ok t _ hd).slice rfl⟩
  · rename_i size bytes ag z hd
    exact ⟨_, .inl rfl, fun w => (c.ty_ok t _ hd).string rfl⟩
  · cases h

theorem hset_same {s : HS} {r : Nat} {x : Res} (h : hget s r = some x) : hset s r x = s := by
  induction s with
  | nil => simp only [hset_nil]
  | cons p s ih =>
    obtain ⟨q, y⟩ := p
    simp only [hget_cons] at h
    simp only [hset_cons]
    split at h
    · rename_i e; cases h; rw [if_pos e, e]
    · rename_i e; rw [if_neg e, ih h]

/-- A row that is at its place as it is appended to: its cells. -/
theorem old_list {G : Ghost} {w : World} {s : HS} (P : Program) (hs : SRel G s w) {sz : Nat} {l : List HV} {b o : Nat} (ha : relAts G l (G.K b) o sz) :
    ∃ olds : List Value, olds.length = l.length * sz ∧ (∀ c w', w'.heap = w.heap → (Builtin.firstCells sz l.length (.slice (some ⟨b, o, none⟩) l.length c)).run P w' = .ok olds.toArray w') ∧
      ∀ (G' : Ghost) (rd' : Nat → Option Value) (o' : Nat), G.Le G' → (∀ j, j < olds.length → rd' (o' + j) = olds[j]?) → relAts G' l rd' o' sz := by
  obtain ⟨olds, n1, n2, n3, n4⟩ := relAts_cells ha
  refine ⟨olds, n1, fun c w' hw => ?_, n4⟩
  refine run_firstCells_some w' sz l.length ⟨b, o, none⟩ l.length c olds n1 fun j u e => ?_
  rw [add_plain, cell_of_heap hw]
  have hj := (List.getElem?_eq_some_iff.1 e).1
  have := n2 j hj
  rw [e] at this
  exact hs.kw _ _ _ this

theorem new_size (d : TyD) {P : Program} {e : TypeId} (hd : TyOK P e d) {olds news : List Value} {n m cap : Nat} (ho : olds.length = n * d.size) (hn : news.length = m * d.size) (hc : n + m ≤ cap) :
    cap * d.size ≤ (olds.toArray ++ news.toArray ++ Builtin.zeroCells d.zero.cells (cap - (n + m))).size := by
  simp only [Array.size_append, List.size_toArray, zeroCells_size, hd.zsize, ho, hn]
  rw [← Nat.add_mul, ← Nat.add_mul]
  exact Nat.mul_le_mul_right _ (by omega)

/-- What a move to a new block gives. -/
theorem moved {c : Cx} {G : Ghost} {s s' : HS} {w : World} (hs : SRel G s w) {t u ty e : TypeId} {d : TyD} {du : TypeDesc} (ht : ∀ w : World, (underlying t).run c.P w = .ok (.slice e) w) (hu : ∀ w : World, (underlying u).run c.P w = .ok du w) (hdu : du = .string ∨ ∃ e', du = .slice e') (hd : TyOK c.P e d)
    {base : Option Addr} {l ys : List HV} {cp : Nat} {v : Value} {olds news : List Value}
    (hold : ∀ w', w'.heap = w.heap → (Builtin.firstCells d.size l.length (.slice base l.length cp)).run c.P w' = .ok olds.toArray w') (hol : olds.length = l.length * d.size)
    (hor : ∀ (G' : Ghost) (rd' : Nat → Option Value) (o' : Nat), G.Le G' → (∀ j, j < olds.length → rd' (o' + j) = olds[j]?) → relAts G' l rd' o' d.size) (hsrc : Src c.P G w d.size v ys news)
    (hc : cp < l.length + ys.length) (hb : 0 < d.bytes) (hfit : (l.length + ys.length) * d.bytes ≤ 140737488355328)
    {r st n lim : Nat} (hst : st + (l.length + ys.length) = n)
    (hr : (G.lim ≤ r ∧ lim = r + 1 ∧ s' = (r, .tok n) :: s) ∨ (r ∈ keys s ∧ lim = G.lim ∧ s' = hset s r (.tok n) ∧ ∃ tp, G.top r = some tp ∧ tp.n < n)) :
    Gives s G w ((do pure (Next.value (← Builtin.append_ #[t, u] ty #[.slice base l.length cp, v])) : Sem Next).run c.P w) (.list (.own r st) d.size (l ++ ys)) s' := by
  have run := run_append_new (ty := ty) ht hu hdu hd hold hsrc hc hb hfit
  have hcap := capOf_ge w (l.length + ys.length) cp e
  have hz := new_size d hd hol hsrc.length hcap
  have post := post_grown (w' := w.drew) (t := e) hs rfl (e := (l.length + ys.length) * d.size) rfl rfl rfl hr hz
  refine ⟨_, _, _, .inl (by rw [Sem.run_bind, run]; rfl), ?_, post⟩
  have hlen : (l ++ ys).length = l.length + ys.length := List.length_append
  suffices key : rel (G.grown r n w.heap.size ((l.length + ys.length) * d.size) (capOf w (l.length + ys.length) cp e * d.size) lim (olds.toArray ++ news.toArray ++ Builtin.zeroCells d.zero.cells (capOf w (l.length + ys.length) cp e - (l.length + ys.length)))) (.list (.own r st) d.size (l ++ ys)) (.slice (some ⟨w.heap.size, 0, none⟩) (l ++ ys).length (capOf w (l.length + ys.length) cp e)) by
    rwa [hlen] at key
  refine list_rel (by rw [hlen]; exact hcap) (relAts_new post.ext.le (rest := (Builtin.zeroCells d.zero.cells (capOf w (l.length + ys.length) cp e - (l.length + ys.length))).toList) hol hor hsrc.length hsrc.rel fun j hj => ?_) ?_
  · simp only [Ghost.grown, if_true]
    rw [if_pos hj, ← Array.getElem?_toList]
    simp
  · refine ⟨⟨n, w.heap.size, (l.length + ys.length) * d.size, _⟩, by simp only [Ghost.grown, if_true]; rfl, (show st + (l ++ ys).length ≤ n by omega), fun _ => .inl ⟨rfl, ?_, ?_⟩⟩
    · simp [hlen]
    · simp [hlen]

/-- The same, as a row to be written. -/
theorem movedArr {c : Cx} {G : Ghost} {s : HS} {w : World} (hs : SRel G s w) {t u ty e : TypeId} {d : TyD} {du : TypeDesc} (ht : ∀ w : World, (underlying t).run c.P w = .ok (.slice e) w) (hu : ∀ w : World, (underlying u).run c.P w = .ok du w) (hdu : du = .string ∨ ∃ e', du = .slice e') (hd : TyOK c.P e d) (hce : c.ty e = some d) {z : HV} (hz : hzero c e = some z) (hkz : kdOk z = true) (hsz : 0 < d.size)
    {base : Option Addr} {l ys : List HV} {cp : Nat} {v : Value} {olds news : List Value}
    (hold : ∀ w', w'.heap = w.heap → (Builtin.firstCells d.size l.length (.slice base l.length cp)).run c.P w' = .ok olds.toArray w') (hol : olds.length = l.length * d.size)
    (hor : ∀ (G' : Ghost) (rd' : Nat → Option Value) (o' : Nat), G.Le G' → (∀ j, j < olds.length → rd' (o' + j) = olds[j]?) → relAts G' l rd' o' d.size) (hsrc : Src c.P G w d.size v ys news)
    (hc : cp < l.length + ys.length) (hb : 0 < d.bytes) (hfit : (l.length + ys.length) * d.bytes ≤ 140737488355328) :
    Gives s G w ((do pure (Next.value (← Builtin.append_ #[t, u] ty #[.slice base l.length cp, v])) : Sem Next).run c.P w) (.arr G.lim 0 (l.length + ys.length) (capOf w (l.length + ys.length) cp e) d.size) ((G.lim, .cells ((l ++ ys).flatMap HV.cells ++ hrep (capOf w (l.length + ys.length) cp e - (l.length + ys.length)) z.cells) e) :: s) := by
  have run := run_append_new (ty := ty) ht hu hdu hd hold hsrc hc hb hfit
  have p0 : Post s G w s G w.drew := Post.drawn hs rfl rfl rfl rfl
  have hs1 := p0.srel
  have hzs := hd.zsize
  obtain ⟨d', hd', hzr⟩ := zero_ok0 c (G := G) hz
  rw [hce] at hd'
  cases hd'
  have c1 : relCs G (l.flatMap HV.cells) olds := relAts_flatMap (rd := fun j => olds[j]?) (hor G _ 0 (.refl G) fun j _ => by rw [Nat.zero_add]) hol fun j _ => by rw [Nat.zero_add]
  have c2 : relCs G (ys.flatMap HV.cells) news := relAts_flatMap (rd := fun j => news[j]?) (hsrc.rel G _ 0 (.refl G) fun j _ => by rw [Nat.zero_add]) hsrc.length fun j _ => by rw [Nat.zero_add]
  have c3 := rep_rel hzr (kdOk_ne hkz) (capOf w (l.length + ys.length) cp e - (l.length + ys.length)) (by rw [hzs]; exact hsz)
  refine ⟨_, _, G.newObj w.drew.heap.size, .inl (by rw [Sem.run_bind, run]; rfl), rel_leaf (by simp only [relC]; exact ⟨w.drew.heap.size, by simp [Ghost.newObj], rfl⟩) rfl, p0.trans hs (post_newObj hs1 _ _ ⟨w.drew.heap.size, _, by simp [Ghost.newObj], by simp [Ghost.newObj], pushed_new w.drew _, ?_, fun o => hs1.K_new (Nat.le_refl _) o⟩)⟩
  refine relCs.mono (Ghost.newObj_le hs1 _) _ _ ?_
  rw [List.flatMap_append]
  have := relCs_append (relCs_append c1 c2) c3
  simpa [Builtin.zeroCells] using this
theorem append_ok (c : Cx) {s : HS} {G : Ghost} {w : World} (hs : SRel G s w) (t u : TypeId) {x y : HV} {p v : Value} (hx : rel G x p) (hy : rel G y v) (ty : TypeId) :
    ResOK c.P s G w ((do pure (Next.value (← Builtin.append_ #[t, u] ty #[p, v])) : Sem Next).run c.P w) (happend c s t u x y) := by
  unfold happend
  split
  · trivial
  · rename_i d hse
    obtain ⟨e, hd, ht⟩ := sliceElem_ok hse
    split
    · trivial
    · rename_i hchk
      simp only [Bool.and_eq_true, Nat.blt_eq] at hchk
      obtain ⟨⟨hrow, hb⟩, hsz⟩ := hchk
      obtain ⟨du, hdu, hu⟩ := isRow_ok hrow
      split
      · trivial
      · rename_i ys hys
        obtain ⟨news, hsrc⟩ := more_ok c.P hs hy hys
        have grow : ∀ {x : HV} {l : List HV} {base : Option Addr} {n : Nat} (hx : rel G x (.slice base n n)) (hn : n = l.length) (olds : List Value)
            (hold : ∀ w', w'.heap = w.heap → (Builtin.firstCells d.size l.length (.slice base l.length l.length)).run c.P w' = .ok olds.toArray w') (hol : olds.length = l.length * d.size)
            (hor : ∀ (G' : Ghost) (rd' : Nat → Option Value) (o' : Nat), G.Le G' → (∀ j, j < olds.length → rd' (o' + j) = olds[j]?) → relAts G' l rd' o' d.size),
            ResOK c.P s G w ((do pure (Next.value (← Builtin.append_ #[t, u] ty #[.slice base n n, v])) : Sem Next).run c.P w) (hgrow c s t d x l ys) := by
          intro x l base n hx hn olds hold hol hor
          subst hn
          rintro K ⟨hfit, hK⟩
          cases hyc : ys with
          | nil =>
            subst hyc
            exact ⟨x, s, hK, _, w, G, .inl (by rw [Sem.run_bind, run_append_none ht hu hdu hd hsrc (Nat.le_refl _)]; rfl), hx, .refl hs⟩
          | cons y0 ys0 =>
            have hK2 : Grow2 (∀ r, r ∉ keys s → K (.list (.own r 0) d.size (l ++ ys)) ((r, .tok (l.length + ys.length)) :: s))
                (∃ e z, sliceElemT c t = some e ∧ hzero c e = some z ∧ kdOk z = true ∧ ∀ r, r ∉ keys s → ∀ cap, l.length + ys.length ≤ cap → K (.arr r 0 (l.length + ys.length) cap d.size) ((r, .cells ((l ++ ys).flatMap HV.cells ++ hrep (cap - (l.length + ys.length)) z.cells) e) :: s)) := by
              rw [hyc] at hK ⊢; exact hK
            rcases hK2.out with hK' | ⟨e', z, he', hz, hkz, hK'⟩
            rotate_left
            · have hee : e' = e ∧ c.ty e = some d := by
                unfold sliceElemT at he'
                unfold sliceElem at hse
                split at he'
                · rename_i q1 q2 q3 q4 q5 hq
                  cases he'
                  rw [hq] at hse
                  have h1 := (c.ty_ok t _ hq).slice (w := w) rfl
                  rw [ht w] at h1
                  cases h1
                  exact ⟨rfl, hse⟩
                · cases he'
              obtain ⟨rfl, hce⟩ := hee
              exact ⟨_, _, hK' G.lim (fun hm => by have := hs.lt_key hm; omega) (capOf w (l.length + ys.length) l.length e') (capOf_ge _ _ _ _), movedArr hs ht hu hdu hd hce hz hkz hsz hold hol hor hsrc (by rw [hyc]; simp) hb hfit⟩
            exact ⟨_, _, hK' G.lim (fun hm => by have := hs.lt_key hm; omega), moved hs ht hu hdu hd hold hol hor hsrc (by rw [hyc]; simp) hb hfit (by omega) (.inl ⟨Nat.le_refl _, rfl, rfl⟩)⟩
        split
        · have := rel_v_eq hx
          subst this
          exact grow (l := []) hx rfl [] (fun w' _ => by simp [Builtin.firstCells]) (by simp) (fun _ _ _ _ _ => by simp only [relAts])
        · rename_i sz l
          split
          · rename_i hz
            have hz := Nat.eq_of_beq_eq_true hz
            subst hz
            rcases rel_list hx with ⟨rfl, rfl, _⟩ | ⟨b, o, cp, rfl, hcp, ha, hcn⟩ | ⟨rfl, _, ad, rfl⟩
            · exact grow (l := []) hx rfl [] (fun w' _ => by simp [Builtin.firstCells]) (by simp) (fun _ _ _ _ _ => by simp only [relAts])
            · have hcn : cp = l.length := hcn
              subst hcn
              obtain ⟨olds, o1, o2, o3⟩ := old_list c.P hs ha
              exact grow hx rfl olds (fun w' hw => o2 _ w' hw) o1 o3
            · exact grow (l := []) hx rfl [] (fun w' _ => run_firstCells_some w' _ 0 ad 0 0 [] (by simp) (fun j u e => by simp at e)) (by simp) (fun _ _ _ _ _ => by simp only [relAts])
          · trivial
        · rename_i i st sz l
          split
          · rename_i hz
            have hz := Nat.eq_of_beq_eq_true hz
            subst hz
            intro rx hg
            cases rx with
            | tok n =>
              rintro K ⟨hn, hfit, hK⟩
              refine ⟨_, _, hK, ?_⟩
              have hm := hget_mem hg
              have hk : i ∈ keys s := List.mem_map.2 ⟨_, hm, rfl⟩
              obtain ⟨tp, htp, htn, hown⟩ := hs.holds i _ hm
              have same : ys = [] → ∀ {base cp}, p = .slice base l.length cp → l.length ≤ cp → Gives s G w ((do pure (Next.value (← Builtin.append_ #[t, u] ty #[p, v])) : Sem Next).run c.P w) (.list (.own i st) d.size (l ++ ys)) (hset s i (.tok (n + ys.length))) := by
                intro hnil base cp hp hcp
                subst hnil hp
                simp only [List.append_nil, List.length_nil, Nat.add_zero]
                rw [hset_same hg]
                exact ⟨_, w, G, .inl (by rw [Sem.run_bind, run_append_none ht hu hdu hd hsrc hcp]; rfl), hx, .refl hs⟩
              have hne : ys ≠ [] → 0 < ys.length := fun h => List.length_pos_iff.2 h
              rcases (rel_list hx).imp id or_comm.1 with ⟨rfl, rfl, _⟩ | ⟨_, hno, _⟩ | ⟨b, o, cp, rfl, hcp, ha, htok⟩
              · by_cases hnil : ys = []
                · exact same hnil rfl (Nat.le_refl _)
                · have h0 := hne hnil
                  have := moved (l := []) (olds := []) (cp := 0) (base := none) (ty := ty) hs ht hu hdu hd (fun w' _ => by simp [Builtin.firstCells]) (by simp) (fun _ _ _ _ _ => by simp only [relAts]) hsrc (by simpa using h0) hb (by simpa using hfit)
                    (r := i) (st := st) (n := n + ys.length) (lim := G.lim) (s' := hset s i (.tok (n + ys.length))) (by simp at hn ⊢; omega) (.inr ⟨hk, rfl, rfl, tp, htp, by omega⟩)
                  exact this
              · exact absurd rfl (hno _ _)
              · obtain ⟨olds, o1, o2, o3⟩ := old_list c.P hs ha
                by_cases hnil : ys = []
                · exact same hnil rfl hcp
                · have h0 := hne hnil
                  rcases Nat.lt_or_ge cp (l.length + ys.length) with hlt | hge
                  · exact moved hs ht hu hdu hd (fun w' hw => o2 cp w' hw) o1 o3 hsrc hlt hb hfit (by omega) (.inr ⟨hk, rfl, rfl, tp, htp, by omega⟩)
                  · obtain ⟨tp', htp', _, hend⟩ := htok
                    rw [htp] at htp'
                    cases htp'
                    obtain ⟨e1, e2, e3⟩ : tp.b = b ∧ tp.e = o + l.length * d.size ∧ tp.ce = o + cp * d.size := (hend (by omega)).resolve_right (fun h => by omega)
                    have hce : o + l.length * d.size + ys.length * d.size ≤ o + cp * d.size := by
                      rw [Nat.add_assoc, ← Nat.add_mul]; exact Nat.add_le_add_left (Nat.mul_le_mul_right _ hge) _
                    have hpos : 0 < ys.length * d.size := Nat.mul_pos h0 hsz
                    obtain ⟨ro, cur, tt, hh, hcur, hKn⟩ := hown (by omega)
                    rw [e1] at ro hh hKn
                    have hnl := hsrc.length
                    have run := run_append_room' (ty := ty) ht hu hdu hd (n := l.length) (c := cp) (o := o) hh hsrc hge (by omega)
                    let cur' := (cur.toList.take (o + l.length * d.size) ++ news ++ cur.toList.drop (o + l.length * d.size + news.length)).toArray
                    let G' : Ghost := { G with K := fun b' o' => if b' = b ∧ tp.e ≤ o' ∧ o' < tp.e + news.length then cur'[o']? else G.K b' o', top := fun q => if q = i then some ⟨n + ys.length, b, tp.e + news.length, tp.ce⟩ else G.top q }
                    have hcl : cur'.size = cur.size := by simp [cur']; omega
                    have hmid : ∀ j, j < news.length → cur'[tp.e + j]? = news[j]? := fun j hj => by
                      rw [← Array.getElem?_toList]
                      simp only [cur']
                      rw [List.append_assoc, List.getElem?_append_right (by simp; omega)]
                      have hlt : (cur.toList.take (o + l.length * d.size)).length = tp.e := by simp; omega
                      rw [hlt, show tp.e + j - tp.e = j from by omega, List.getElem?_append_left hj]
                    have hlow : ∀ o', o' < tp.e → cur'[o']? = cur[o']? := fun o' ho' => by
                      rw [← Array.getElem?_toList, ← Array.getElem?_toList]
                      simp only [cur']
                      rw [List.append_assoc, List.getElem?_append_left (by simp; omega), List.getElem?_take_of_lt (by omega)]
                    have le : G.Le G' := by
                      refine ⟨fun b' o' v' e' => ?_, fun _ _ e' => e', fun q tq e' => ?_⟩
                      · simp only [G']
                        rw [if_neg ?_]
                        · exact e'
                        · rintro ⟨rfl, h1, _⟩
                          rw [hKn o' h1] at e'; cases e'
                      · simp only [G']
                        split
                        · rename_i hq
                          subst hq
                          rw [htp] at e'
                          cases e'
                          exact ⟨_, rfl, by simp only []; omega, fun hq => by simp only [] at hq; omega⟩
                        · exact ⟨tq, e', Nat.le_refl _, fun _ => rfl⟩
                    have post : Post s G w (hset s i (.tok (n + ys.length))) G' (w.setRow b cur') := by
                      refine post_write hs hh ro hk ?_ le (fun b' hb' o' => by simp only [G']; rw [if_neg (fun h => hb' h.1)]) (fun o' v' e' => ?_) rfl rfl (fun q hq => by simp only [G']; rw [if_neg hq]) rfl (setRow_size ..)
                      · refine ⟨⟨n + ys.length, b, tp.e + news.length, tp.ce⟩, by simp [G'], rfl, fun _ => ⟨ro, cur', tt, setRow_heap w b cur _ tt _ hh, by rw [hcl]; exact hcur, fun o' ho' => ?_⟩⟩
                        simp only [G'] at ho' ⊢
                        rw [if_neg (by omega)]
                        exact hKn o' (by omega)
                      · simp only [G'] at e'
                        split at e'
                        · exact e'
                        · rcases Nat.lt_or_ge o' tp.e with h1 | h1
                          · have hcell := hs.kw b o' v' e'
                            simp only [World.cell?, hh, Option.isSome_none, Bool.false_eq_true, if_false] at hcell
                            rw [hlow o' h1]; exact hcell
                          · rw [hKn o' h1] at e'; cases e'
                    refine ⟨_, _, _, .inl (by rw [Sem.run_bind, run]; rfl), ?_, post⟩
                    have hlen : (l ++ ys).length = l.length + ys.length := List.length_append
                    suffices key : rel G' (.list (.own i st) d.size (l ++ ys)) (.slice (some ⟨b, o, none⟩) (l ++ ys).length cp) by
                      rwa [hlen] at key
                    refine list_rel (by omega) (relAts_append (o3 G' _ o le fun j hj => ?_) (hsrc.rel G' _ _ le fun j hj => ?_)) ?_
                    · obtain ⟨olds', q1, q2, _, _⟩ := relAts_cells ha
                      simp only [G']
                      rw [if_neg (by omega)]
                      have hqq : olds = olds' := by
                        have a1 := o2 cp w rfl
                        have a2 := run_firstCells_some (P := c.P) w d.size l.length ⟨b, o, none⟩ l.length cp olds' q1 (fun j u e => by
                          rw [add_plain]
                          have hj := (List.getElem?_eq_some_iff.1 e).1
                          have := q2 j hj
                          rw [e] at this
                          exact hs.kw _ _ _ this)
                        rw [a1] at a2
                        simpa using a2
                      rw [hqq] at hj ⊢
                      exact q2 j hj
                    · simp only [G']
                      rw [if_pos ⟨trivial, by omega, by omega⟩, ← e2]
                      exact hmid j hj
                    · refine ⟨⟨n + ys.length, b, tp.e + news.length, tp.ce⟩, by simp [G'], (show st + (l ++ ys).length ≤ n + ys.length by omega), fun _ => .inl ⟨rfl, ?_, e3⟩⟩
                      simp only [hlen, e2, hnl, Nat.add_mul]; omega
            | void => trivial
            | cells cs t' => trivial
            | map es => trivial
          · trivial
        · trivial

end Go.Proofs.Hk

import Derived.Test.YtmgcmljldggllaaH13
import Derived.IntWalk
set_option linter.unusedSimpArgs false
set_option linter.unusedVariables false
namespace Go.Proofs.Hk
open Go

theorem relCs_of {G : Ghost} : ∀ {l : List HV} {us : List Value}, l.length = us.length → (∀ (i : Nat) (x : HV) (u : Value), l[i]? = some x → us[i]? = some u → x.kd = .one ∧ relC G x [u]) → relCs G l us
  | [], [], _, _ => by simp [relCs]
  | [], _ :: _, h, _ => by simp at h
  | _ :: _, [], h, _ => by simp at h
  | x :: l, u :: us, h, k => by
    simp only [relCs]
    exact ⟨u, us, rfl, k 0 x u rfl rfl, relCs_of (by simpa using h) fun i y v h1 h2 => k (i + 1) y v (by simpa using h1) (by simpa using h2)⟩
theorem flatten_replicate_get {α : Type} (l : List α) (hl : 0 < l.length) : ∀ (n i : Nat), (List.replicate n l).flatten[i]? = if i < n * l.length then l[i % l.length]? else none
  | 0, i => by simp
  | n + 1, i => by
    simp only [List.replicate_succ, List.flatten_cons]
    by_cases h : i < l.length
    · rw [List.getElem?_append_left h, if_pos (by rw [Nat.succ_mul]; omega), Nat.mod_eq_of_lt h]
    · rw [List.getElem?_append_right (by omega), flatten_replicate_get l hl n]
      have e : (i - l.length) % l.length = i % l.length := by
        conv => rhs; rw [show i = (i - l.length) + l.length from by omega, Nat.add_mod_right]
      rw [e]
      have : (i - l.length < n * l.length) = (i < (n + 1) * l.length) := by rw [Nat.succ_mul]; simp; omega
      simp only [this]
theorem hrep_length (n : Nat) (l : List HV) : (hrep n l).length = n * l.length := by
  unfold hrep
  split
  · simp
  · simp
theorem hrep_eq (n : Nat) (l : List HV) : hrep n l = (List.replicate n l).flatten := by
  unfold hrep
  split
  · rename_i z
    induction n with
    | zero => rfl
    | succ n ih => simp [List.replicate_succ, ← ih]
  · rfl
theorem rep_rel {G : Ghost} {z : HV} {d : Value} (hz : rel G z d) (hk : z.kd ≠ .tup) (n : Nat) (hs : 0 < d.cells.size) : relCs G (hrep n z.cells) ((Array.range (n * d.cells.size)).map (fun x => d.cells[x % d.cells.size]!)).toList := by
  have hc := rel_cells hz hk
  have hl := relCs_length hc
  simp only [Array.length_toList] at hl
  refine relCs_of (by rw [hrep_length]; simp [hl]) fun i x u h1 h2 => ?_
  rw [hrep_eq, flatten_replicate_get _ (by omega)] at h1
  split at h1
  · rename_i hi
    have hm : i % d.cells.size < d.cells.size := Nat.mod_lt _ hs
    rw [← hl] at h1
    obtain ⟨v, e, h3⟩ := relCs_get4 hc _ _ h1
    have : u = v := by
      have e1 : d.cells[i % d.cells.size]! = v := by
        have : d.cells[i % d.cells.size]? = some v := by simpa using e
        rw [getElem!_def, this]
      simp only [Array.toList_map, Array.toList_range, List.getElem?_map] at h2
      rw [List.getElem?_range (by rw [hl]; exact hi)] at h2
      simp only [Option.map_some, Option.some.injEq] at h2
      rw [← h2, e1]
    subst this
    exact h3
  · cases h1

theorem run_makeSlice {P : Program} {w : World} {t e : TypeId} {d : TyD} (ht : (underlying t).run P w = .ok (.slice e) w) (hd : TyOK P e d) {k k' : IntKind} {n c : Int} (h0 : 0 ≤ n) (h1 : n ≤ c) (h2 : c < 9223372036854775808) (h3 : c.toNat * d.bytes ≤ 70368744177664) (hs : 0 < d.size) (hb : 0 < d.bytes) :
    (Instr.makeSlice t (.int k n) (.int k' c)).run P w = .ok (.slice (some ⟨w.heap.size, 0, none⟩) n.toNat c.toNat) (World.pushed w (.cells ((Array.range (c.toNat * d.size)).map (fun x => d.zero.cells[x % d.zero.cells.size]!)) e)) := by
  obtain ⟨i, hi, hi1, hi2, hi3⟩ := hd.info (w := w)
  have w1 : IntKind.i64.wrap n = n := IntWalk.i64_in _ (by omega)
  have w2 : IntKind.i64.wrap c = c := IntWalk.i64_in _ (by omega)
  have hc : ((c.toNat : Nat) : Int) = c := by omega
  have big : ∀ m : Int, m < 0 ∨ (d.bytes : Int) * m > 2 ^ 48 → ¬ (0 ≤ m ∧ m ≤ c) := fun m hm hq => by
    rcases hm with hm | hm
    · omega
    · have a1 : (d.bytes : Int) * m ≤ d.bytes * c := Int.mul_le_mul_of_nonneg_left hq.2 (by omega)
      have a2 : (d.bytes : Int) * c = ((c.toNat * d.bytes : Nat) : Int) := by rw [Int.natCast_mul, hc, Int.mul_comm]
      omega
  have b1 : (decide (c < 0) || decide ((d.bytes : Int) * c > 2 ^ 48)) = false := by
    cases hx : (decide (c < 0) || decide ((d.bytes : Int) * c > 2 ^ 48)) with
    | false => rfl
    | true => exact absurd ⟨by omega, by omega⟩ (big c (by simpa using hx))
  have hz := hd.zero (w := w)
  have hsz := hd.sizeOf (w := w)
  have ai : (asInt (.int k n)).run P w = .ok n w := rfl
  have ai' : (asInt (.int k' c)).run P w = .ok c w := rfl
  simp only [Instr.makeSlice, Sem.run_bind, ht, Result.andThen_ok, ai, ai', hi, w1, w2, hi2, b1]
  rw [if_neg (by simp; omega)]
  have r1 : ¬ c.toNat * d.bytes > roomBytes := by unfold roomBytes; omega
  simp only [askRoom, if_neg r1, Sem.run_bind, Sem.run_pure, Result.andThen_ok, hsz]
  by_cases hn : c.toNat * d.size = 0
  · rw [if_pos hn]
    have e0 : Array.range 0 = #[] := Array.eq_empty_of_size_eq_zero (by simp)
    simp [newRow, Go.newObj, Sem.run, World.pushed, hn, e0]
  · rw [if_neg hn]
    simp only [Sem.run_bind, hz, Sem.run_pure, Result.andThen_ok]
    simp [newRow, Go.newObj, Sem.run, World.pushed]

theorem zero_ok0 (c : Cx) {G : Ghost} {t : TypeId} {z : HV} (h : hzero c t = some z) : ∃ d, c.ty t = some d ∧ rel G z d.zero := by
  unfold hzero at h
  split at h
  · cases h
  · rename_i d hd
    refine ⟨d, hd, ?_⟩
    split at h
    · rename_i cs hz
      split at h
      · rename_i hone
        cases h
        rw [hz]
        simpa using rel_agg (relCs_map_v G cs.toList fun u hu => by
          have := (List.all_eq_true.1 hone) u hu
          cases u <;> first | rfl | cases this)
      · cases h
    · cases h
    · rename_i v h1 h2
      cases h
      exact rel_v G (h := by
        cases hv : d.zero <;> first | rfl | exact absurd hv (h1 _) | exact absurd hv (h2 _))
theorem makeSlice_ok (c : Cx) {s : HS} {G : Ghost} {w : World} (hs : SRel G s w) (t : TypeId) (own : Bool) {x y : HV} {u v : Value} (hx : rel G x u) (hy : rel G y v) :
    ResOK c.P s G w ((do pure (Next.value (← Instr.makeSlice t u v)) : Sem Next).run c.P w) (hmakeSlice c s t own x y) := by
  unfold hmakeSlice
  split
  · trivial
  · rename_i e he
    have ht : (underlying t).run c.P w = .ok (.slice e) w := by
      unfold sliceElemT at he
      split at he
      · rename_i e' hd
        cases he
        exact (c.ty_ok t _ hd).slice rfl
      · cases he
    split
    · rename_i d z hd hz
      have hdo := c.ty_ok e d hd
      obtain ⟨d', hd', hzr⟩ := zero_ok0 c (G := G) hz
      rw [hd] at hd'
      cases hd'
      split
      · trivial
      · rename_i hchk
        simp only [Bool.and_eq_true, Nat.blt_eq] at hchk
        obtain ⟨⟨hsz, hb⟩, hk⟩ := hchk
        have hk := kdOk_ne hk
        split
        · rename_i k n k' m
          have e1 := rel_v_eq hx
          have e2 := rel_v_eq hy
          subst e1 e2
          split
          · rintro K ⟨⟨h0, h1, h2⟩, hK⟩
            subst h0
            have run := run_makeSlice (k := k) (k' := k') ht hdo (n := 0) (c := m) (Int.le_refl _) h1 (by
              have : m.toNat * 1 ≤ m.toNat * d.bytes := Nat.mul_le_mul_left _ hb
              omega) h2 hsz hb
            have hzs := hdo.zsize
            refine ⟨_, _, hK G.lim (fun hm => by have := hs.lt_key hm; omega), _, _, G.grown G.lim 0 w.heap.size 0 (m.toNat * d.size) (G.lim + 1) _, .inl (by rw [Sem.run_bind, run]; rfl), ?_, post_grown hs rfl rfl rfl rfl (.inl ⟨Nat.le_refl _, rfl, rfl⟩) (by simp)⟩
            refine list_rel (by simp) (by simp only [relAts]) ?_
            refine ⟨⟨0, w.heap.size, 0, _⟩, by simp only [Ghost.grown, if_true]; rfl, by simp, fun _ => .inl ⟨rfl, by simp, by simp⟩⟩
          · rintro K ⟨⟨h0, h1, h2⟩, hK⟩
            have run := run_makeSlice (k := k) (k' := k') ht hdo (n := n) (c := m) h0 h1 (by
              have : m.toNat * 1 ≤ m.toNat * d.bytes := Nat.mul_le_mul_left _ hb
              omega) h2 hsz hb
            have hzs := hdo.zsize
            refine ⟨_, _, hK G.lim (fun hm => by have := hs.lt_key hm; omega), _, _, G.newObj w.heap.size, .inl (by rw [Sem.run_bind, run]; rfl), ?_, post_newObj hs _ _ ⟨w.heap.size, _, by simp [Ghost.newObj], by simp [Ghost.newObj], pushed_new w _, ?_, fun o => hs.K_new (Nat.le_refl _) o⟩⟩
            · exact rel_leaf (by simp only [relC]; exact ⟨w.heap.size, by simp [Ghost.newObj], rfl⟩) rfl
            · have := rep_rel hzr hk m.toNat (by rw [hzs]; exact hsz)
              rw [hzs] at this
              simp only [hzs]
              exact relCs.mono (Ghost.newObj_le hs _) _ _ this
        · trivial
    · trivial
end Go.Proofs.Hk

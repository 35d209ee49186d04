import Derived.Test.YtmgcmljldggllaaH12
import Derived.IntWalk
set_option linter.unusedSimpArgs false
set_option linter.unusedVariables false
namespace Go.Proofs.Hk
open Go

theorem run_sliceBound {P : Program} {w : World} {k : IntKind} {n : Int} {y : Nat} {code : BoundsCode} (h0 : 0 ≤ n) (h1 : n.toNat ≤ y) : (Instr.sliceBound (.int k n) y code).run P w = .ok n.toNat w := by
  simp only [Instr.sliceBound, asIntOf, pure_bind]
  rw [if_pos ⟨h0, by omega⟩]
  rfl

def BoundRun (P : Program) (w : World) (u : Option Value) (dflt n : Nat) : Prop :=
  match u with
  | none => n = dflt
  | some v => ∀ y code, n ≤ y → (Instr.sliceBound v y code).run P w = .ok n w
/-- What a bound comes to. -/
theorem hbound_ok {P : Program} {s : HS} {G : Ghost} {w : World} {r : Result Next} {x : Option HV} {u : Option Value} {dflt : Nat} {k : Prop → Nat → OpRes}
    (hx : match x, u with | none, none => True | some v, some u => rel G v u | _, _ => False)
    (h : ∀ (p : Prop) (n : Nat), (p → BoundRun P w u dflt n) → ResOK P s G w r (k p n)) : ResOK P s G w r (hbound x dflt k) := by
  unfold hbound
  split
  · cases u with
    | none => exact h _ _ fun _ => rfl
    | some u => exact hx.elim
  · rename_i kd n
    cases u with
    | none => exact hx.elim
    | some u =>
      have := rel_v_eq hx
      subst this
      exact h _ _ fun h0 y code hy => run_sliceBound h0 hy
  · trivial

theorem tokCut_rel {G : Ghost} {t : Tok} {sz n b o c : Nat} (h : tokRel G t sz n b o c) (hn : n ≤ c) {lo hi : Nat} (hlo : lo ≤ hi) (hhi : hi ≤ n) {whole most : Bool} {m : Nat} (hw : whole = true → hi = n) (hm : most = true → m = hi) (hm' : most = false → m = c) {o' : Nat} (ho : o' = if m = lo then o else o + lo * sz) :
    tokRel G (t.cut lo whole most) sz (hi - lo) b o' (m - lo) := by
  cases most with
  | true =>
    show m - lo = hi - lo
    rw [hm rfl]
  | false =>
    have hmc := hm' rfl
    subst hmc
    cases t with
    | no => trivial
    | full =>
      cases whole with
      | false => trivial
      | true =>
        show m - lo = hi - lo
        have : m = n := h
        rw [hw rfl, this]
    | own i st =>
      obtain ⟨tp, e, h1, h2⟩ := h
      refine ⟨tp, e, by omega, fun hq => ?_⟩
      have hin : hi = n := by omega
      have h2 := h2 (by omega)
      subst hin
      rcases h2 with ⟨q1, q2, q3⟩ | ⟨q1, q2⟩
      · by_cases hml : m = lo
        · have : hi = lo := by omega
          have hmh : m = hi := by omega
          refine .inr ⟨?_, by omega⟩
          rw [q2, q3, hmh]
        · rw [if_neg hml] at ho
          subst ho
          refine .inl ⟨q1, ?_, ?_⟩
          · rw [q2, Nat.add_assoc, ← Nat.add_mul]; congr 2; omega
          · rw [q3, Nat.add_assoc, ← Nat.add_mul]; congr 2; omega
      · exact .inr ⟨q1, by omega⟩

theorem tokCut_nil {G : Ghost} {t : Tok} (h : tokNil G t) {whole most : Bool} : tokNil G (t.cut 0 whole most) := by
  cases most with
  | true => trivial
  | false =>
    cases t with
    | no => trivial
    | full => cases whole <;> trivial
    | own i st => exact h

theorem relAts_cut {G : Ghost} {sz : Nat} {rd : Nat → Option Value} {l : List HV} {o lo hi m : Nat} (h : relAts G l rd o sz) (hlo : lo ≤ hi) (hhi : hi ≤ l.length) (hm : hi ≤ m) : relAts G ((l.take hi).drop lo) rd (if m = lo then o else o + lo * sz) sz := by
  split
  · have : hi = lo := by omega
    subst this
    rw [List.drop_of_length_le (by simp; omega)]
    simp only [relAts]
  · exact relAts_drop lo (relAts_take hi h)

/-- A row, cut. -/
theorem list_cut {P : Program} {G : Ghost} {w : World} {t : TypeId} {d : TyD} {e : TypeId} (hu : ∀ w, (underlying t).run P w = .ok (.slice e) w) (hd : TyOK P e d) {tk : Tok} {xs : List HV} {u : Value} (hx : rel G (.list tk d.size xs) u)
    {ul uh um : Option Value} {l h : Nat} (hl : l ≤ h) (hh : h ≤ xs.length) (whole most : Bool) (hw : whole = true → h = xs.length)
    (hb : ∀ cp, xs.length ≤ cp → ∃ m, (Instr.sliceBounds true xs.length cp ul uh um).run P w = .ok (l, h, m) w ∧ h ≤ m ∧ (most = true → m = h) ∧ (most = false → m = cp)) :
    ∃ v, (Instr.slice t u ul uh um).run P w = .ok v w ∧ rel G (.list (tk.cut l whole most) d.size ((xs.take h).drop l)) v := by
  have hlen : ((xs.take h).drop l).length = h - l := by simp; omega
  rcases (rel_list hx).imp id or_comm.1 with ⟨rfl, rfl, htn⟩ | ⟨rfl, hno, ad, rfl⟩ | ⟨b, o, cp, rfl, hcp, ha, htok⟩
  · obtain ⟨m, h1, h2, h3, h4⟩ := hb 0 (Nat.le_refl _)
    have hh0 : h = 0 := by simpa using hh
    have hl0 : l = 0 := by omega
    subst hh0 hl0
    have hm0 : m = 0 := by
      cases most with
      | false => exact h4 rfl
      | true => exact h3 rfl
    subst hm0
    refine ⟨.slice none 0 0, ?_, ?_⟩
    · simp only [List.length_nil] at h1
      simp [Instr.slice, hu, h1, hd.sizeOf]
    · simpa using list_rel_nil (tokCut_nil htn)
  · obtain ⟨m, h1, h2, h3, h4⟩ := hb 0 (Nat.le_refl _)
    have hh0 : h = 0 := by simpa using hh
    have hl0 : l = 0 := by omega
    subst hh0 hl0
    have hm0 : m = 0 := by
      cases most with
      | false => exact h4 rfl
      | true => exact h3 rfl
    subst hm0
    simp only [List.length_nil] at h1
    refine ⟨.slice (some ad) 0 0, ?_, ?_⟩
    · simp [Instr.slice, hu, h1, hd.sizeOf]
    · refine list_rel_odd ad fun i st => ?_
      cases most with
      | true => simp [Tok.cut]
      | false =>
        cases tk with
        | no => simp [Tok.cut]
        | full => cases whole <;> simp [Tok.cut]
        | own i' st' => exact absurd rfl (hno _ _)
  · obtain ⟨m, h1, h2, h3, h4⟩ := hb cp hcp
    refine ⟨.slice (some ⟨b, if m = l then o else o + l * d.size, none⟩) (h - l) (m - l), ?_, ?_⟩
    · simp only [Instr.slice, Sem.run_bind, hu, Result.andThen_ok, h1, hd.sizeOf, Sem.run_pure]
      split <;> simp [add_plain]
    · have := list_rel (t := tk.cut l whole most) (c := m - l) (by rw [hlen]; omega) (relAts_cut ha hl hh h2) (by rw [hlen]; exact tokCut_rel htok hcp hl hh hw h3 h4 rfl)
      rwa [hlen] at this

theorem slice_ok (c : Cx) {s : HS} {G : Ghost} {w : World} (hs : SRel G s w) (t : TypeId) {x : HV} {u : Value} {lo hi mx : Option HV} {ul uh um : Option Value} (hx : rel G x u)
    (hlo : match lo, ul with | none, none => True | some v, some u => rel G v u | _, _ => False) (hhi : match hi, uh with | none, none => True | some v, some u => rel G v u | _, _ => False) (hmx : match mx, um with | none, none => True | some v, some u => rel G v u | _, _ => False) :
    ResOK c.P s G w ((do pure (Next.value (← Instr.sliceAt t u ul uh um)) : Sem Next).run c.P w) (hslice c t x lo hi mx) := by
  have fin : ∀ {y : HV} {v : Value} {du : TypeDesc}, (∀ w, (underlying t).run c.P w = .ok du w) → (du = .string ∨ ∃ e', du = .slice e') → (Instr.slice t u ul uh um).run c.P w = .ok v w → rel G y v → Gives s G w ((do pure (Next.value (← Instr.sliceAt t u ul uh um)) : Sem Next).run c.P w) y s := fun {y v du} hu hdu h1 h2 =>
    ⟨_, w, G, .inl (by
      have hat : (Instr.sliceAt t u ul uh um).run c.P w = (Instr.slice t u ul uh um).run c.P w := by
        unfold Instr.sliceAt
        rw [Sem.run_bind, hu w, Result.andThen_ok]
        rcases hdu with rfl | ⟨e', rfl⟩ <;> rfl
      rw [Sem.run_bind, hat, h1]; rfl), h2, .refl hs⟩
  unfold hslice
  split
  · rename_i size bytes ag z hd
    have hu := fun w => (c.ty_ok t _ hd).string (w := w) rfl
    split
    · rename_i b
      have := rel_v_eq hx
      subst this
      cases um with
      | some _ => exact hmx.elim
      | none =>
        refine hbound_ok hhi fun p2 h eh => hbound_ok hlo fun p1 l el => ?_
        rintro ⟨h1, h2, h3, h4⟩
        refine fin (y := .v (.string (b.extract l h))) hu (.inl rfl) ?_ (rel_v G)
        have hb : (Instr.sliceBounds false b.size b.size ul uh none).run c.P w = .ok (l, h, b.size) w := by
          have el := el h1
          have eh := eh h2
          cases ul <;> cases uh <;> simp only [BoundRun] at el eh <;> (try subst el) <;> (try subst eh) <;> simp [Instr.sliceBounds, *]
        simp [Instr.slice, hu, hb]
    · trivial
  · rename_i size bytes ag z e hd
    have hu := fun w => (c.ty_ok t _ hd).slice (w := w) rfl
    split
    · trivial
    · rename_i d he
      have hte := c.ty_ok e d he
      split
      · rename_i tk sz xs
        split
        · trivial
        · rename_i hz
          have hz := Nat.eq_of_beq_eq_true hz
          subst hz
          split
          · cases um with
            | some _ => exact hmx.elim
            | none =>
              refine hbound_ok hlo fun p1 l el => ?_
              split
              · cases uh with
                | some _ => exact hhi.elim
                | none =>
                  rintro ⟨h1, h2⟩
                  obtain ⟨v, v1, v2⟩ := list_cut (w := w) (ul := ul) (uh := none) (um := none) hu hte hx h2 (Nat.le_refl _) true false (fun _ => rfl) (fun cp hcp => by
                    refine ⟨cp, ?_, hcp, by simp, fun _ => rfl⟩
                    have el := el h1
                    cases ul <;> simp only [BoundRun] at el <;> simp [Instr.sliceBounds, el, h2])
                  rw [List.take_length] at v2
                  exact fin hu (.inr ⟨e, rfl⟩) v1 v2
              · rename_i hi'
                cases uh with
                | none => exact hhi.elim
                | some uh =>
                  refine hbound_ok (u := some uh) hhi fun p2 h eh => ?_
                  rintro ⟨h1, h2, h3, h4⟩
                  obtain ⟨v, v1, v2⟩ := list_cut (w := w) (ul := ul) (uh := some uh) (um := none) hu hte hx h3 h4 false false (fun h => by cases h) (fun cp hcp => by
                    refine ⟨cp, ?_, by omega, by simp, fun _ => rfl⟩
                    have hq : h ≤ cp := by omega
                    have el := el h1
                    have eh := eh h2
                    simp only [BoundRun] at eh
                    cases ul <;> simp only [BoundRun] at el <;> simp [Instr.sliceBounds, el, eh, h3, hq])
                  exact fin hu (.inr ⟨e, rfl⟩) v1 v2
          · rename_i mx'
            split
            · trivial
            · rename_i hi'
              cases um with
              | none => exact hmx.elim
              | some um =>
                cases uh with
                | none => exact hhi.elim
                | some uh =>
                  refine hbound_ok (u := some um) hmx fun p3 m em => hbound_ok (u := some uh) hhi fun p2 h eh => hbound_ok hlo fun p1 l el => ?_
                  rintro ⟨h1, h2, h3, h4, h5, h6⟩
                  obtain ⟨v, v1, v2⟩ := list_cut (w := w) (ul := ul) (uh := some uh) (um := some um) hu hte hx h4 h6 false true (fun h => by cases h) (fun cp hcp => by
                    refine ⟨m, ?_, by omega, fun _ => h5, by simp⟩
                    have hq : m ≤ cp := by omega
                    have hq2 : h ≤ m := by omega
                    have el := el h1
                    have eh := eh h2
                    have em := em h3
                    simp only [BoundRun] at eh em
                    cases ul <;> simp only [BoundRun] at el <;> simp [Instr.sliceBounds, el, eh, em, h4, hq, hq2])
                  exact fin hu (.inr ⟨e, rfl⟩) v1 v2
      · rename_i r off len cap sz
        split
        · split
          · trivial
          · rename_i hz
            have hz := Nat.eq_of_beq_eq_true hz
            subst hz
            obtain ⟨b, ho, rfl⟩ := rel_arr hx
            cases um with
            | some _ => exact hmx.elim
            | none =>
              refine hbound_ok hhi fun p2 h eh => hbound_ok hlo fun p1 l el => ?_
              rintro ⟨h1, h2, h3, h4, h5, h6⟩
              refine fin (y := .arr r (off + l * d.size) (h - l) (cap - l) d.size) hu (.inr ⟨e, rfl⟩) (v := .slice (some ⟨b, off + l * d.size, none⟩) (h - l) (cap - l)) ?_ (arr_rel ho)
              have hb : (Instr.sliceBounds true len cap ul uh none).run c.P w = .ok (l, h, cap) w := by
                have hq : h ≤ cap := by omega
                have el := el h1
                have eh := eh h2
                cases ul <;> cases uh <;> simp only [BoundRun] at el eh <;> (try subst el) <;> (try subst eh) <;> simp [Instr.sliceBounds, *]
              have hne : ¬ cap = l := by omega
              simp [Instr.slice, hu, hb, hte.sizeOf, hne, add_plain]
        · trivial
      · trivial
  · trivial

end Go.Proofs.Hk

namespace Go.Proofs.Hk
open Go

theorem run_makeSlice {P : Program} {w : World} {t e : TypeId} {d : TyD} (ht : (underlying t).run P w = .ok (.slice e) w) (hd : TyOK P e d) {k k' : IntKind} {n c : Int} (h0 : 0 ≤ n) (h1 : n ≤ c) (h2 : c < 9223372036854775808) (h3 : c.toNat * d.bytes ≤ 70368744177664) (hs : 0 < d.size) (hb : 0 < d.bytes) :
    (Instr.makeSlice t (.int k n) (.int k' c)).run P w = .ok (.slice (some ⟨w.heap.size, 0, none⟩) n.toNat c.toNat) (World.pushed w (.cells ((Array.range (c.toNat * d.size)).map (fun x => d.zero.cells[x % d.zero.cells.size]!)) e)) := by
  obtain ⟨i, hi, hi1, hi2, hi3⟩ := hd.info (w := w)
  have w1 : IntKind.i64.wrap n = n := IntWalk.i64_in _ (by omega)
  have w2 : IntKind.i64.wrap c = c := IntWalk.i64_in _ (by omega)
  have hc : ((c.toNat : Nat) : Int) = c := by omega
  have big : ∀ m : Int, m < 0 ∨ (d.bytes : Int) * m > 2 ^ 48 → ¬ (0 ≤ m ∧ m ≤ c) := fun m hm hq => by
    rcases hm with hm | hm
    · omega
    · have a1 : (d.bytes : Int) * m ≤ d.bytes * c := Int.mul_le_mul_of_nonneg_left hq.2 (by omega)
      have a2 : (d.bytes : Int) * c = ((c.toNat * d.bytes : Nat) : Int) := by rw [Int.natCast_mul, hc, Int.mul_comm]
      omega
  have b1 : (decide (c < 0) || decide ((d.bytes : Int) * c > 2 ^ 48)) = false := by
    cases hx : (decide (c < 0) || decide ((d.bytes : Int) * c > 2 ^ 48)) with
    | false => rfl
    | true => exact absurd ⟨by omega, by omega⟩ (big c (by simpa using hx))
  have hz := hd.zero (w := w)
  have hsz := hd.sizeOf (w := w)
  have ai : (asInt (.int k n)).run P w = .ok n w := rfl
  have ai' : (asInt (.int k' c)).run P w = .ok c w := rfl
  simp only [Instr.makeSlice, Sem.run_bind, ht, Result.andThen_ok, ai, ai', hi, w1, w2, hi2, b1]
  rw [if_neg (by simp; omega)]
  have r1 : ¬ c.toNat * d.bytes > roomBytes := by unfold roomBytes; omega
  simp only [askRoom, if_neg r1, Sem.run_bind, Sem.run_pure, Result.andThen_ok, hsz]
  by_cases hn : c.toNat * d.size = 0
  · rw [if_pos hn]
    have e0 : Array.range 0 = #[] := Array.eq_empty_of_size_eq_zero (by simp)
    simp [newRow, Go.newObj, Sem.run, World.pushed, hn, e0]
  · rw [if_neg hn]
    simp only [Sem.run_bind, hz, Sem.run_pure, Result.andThen_ok]
    simp [newRow, Go.newObj, Sem.run, World.pushed]

theorem makeSlice_ok (c : Cx) {s : HS} {G : Ghost} {w : World} (hs : SRel G s w) (t : TypeId) (own : Bool) {x y : HV} {u v : Value} (hx : rel G x u) (hy : rel G y v) :
    ResOK c.P s G w ((do pure (Next.value (← Instr.makeSlice t u v)) : Sem Next).run c.P w) (hmakeSlice c s t own x y) := by
  unfold hmakeSlice
  split
  · trivial
  · rename_i e he
    have ht : (underlying t).run c.P w = .ok (.slice e) w := by
      unfold sliceElemT at he
      split at he
      · rename_i e' hd
        cases he
        exact (c.ty_ok t _ hd).slice rfl
      · cases he
    split
    · rename_i d z hd hz
      have hdo := c.ty_ok e d hd
      obtain ⟨d', hd', hzr⟩ := zero_ok0 c (G := G) hz
      rw [hd] at hd'
      cases hd'
      split
      · trivial
      · rename_i hchk
        simp only [Bool.and_eq_true, Nat.blt_eq] at hchk
        obtain ⟨⟨hsz, hb⟩, hk⟩ := hchk
        have hk := kdOk_ne hk
        split
        · rename_i k n k' m
          have e1 := rel_v_eq hx
          have e2 := rel_v_eq hy
          subst e1 e2
          split
          · rintro K ⟨⟨h0, h1, h2⟩, hK⟩
            subst h0
            have run := run_makeSlice (k := k) (k' := k') ht hdo (n := 0) (c := m) (Int.le_refl _) h1 (by
              have : m.toNat * 1 ≤ m.toNat * d.bytes := Nat.mul_le_mul_left _ hb
              omega) h2 hsz hb
            have hzs := hdo.zsize
            refine ⟨_, _, hK G.lim (fun hm => by have := hs.lt_key hm; omega), _, _, G.grown G.lim 0 w.heap.size 0 (m.toNat * d.size) (G.lim + 1) _, .inl (by rw [Sem.run_bind, run]; rfl), ?_, post_grown hs rfl rfl rfl rfl (.inl ⟨Nat.le_refl _, rfl, rfl⟩) (by simp)⟩
            refine list_rel (by simp) (by simp only [relAts]) ?_
            refine ⟨⟨0, w.heap.size, 0, _⟩, by simp only [Ghost.grown, if_true]; rfl, by simp, fun _ => .inl ⟨rfl, by simp, by simp⟩⟩
          · rintro K ⟨⟨h0, h1, h2⟩, hK⟩
            have run := run_makeSlice (k := k) (k' := k') ht hdo (n := n) (c := m) h0 h1 (by
              have : m.toNat * 1 ≤ m.toNat * d.bytes := Nat.mul_le_mul_left _ hb
              omega) h2 hsz hb
            have hzs := hdo.zsize
            refine ⟨_, _, hK G.lim (fun hm => by have := hs.lt_key hm; omega), _, _, G.newObj w.heap.size, .inl (by rw [Sem.run_bind, run]; rfl), ?_, post_newObj hs _ _ ⟨w.heap.size, _, by simp [Ghost.newObj], by simp [Ghost.newObj], pushed_new w _, ?_, fun o => hs.K_new (Nat.le_refl _) o⟩⟩
            · exact rel_leaf (by simp only [relC]; exact ⟨w.heap.size, by simp [Ghost.newObj], rfl⟩) rfl
            · have := rep_rel hzr hk m.toNat (by rw [hzs]; exact hsz)
              rw [hzs] at this
              simp only [hzs]
              exact relCs.mono (Ghost.newObj_le hs _) _ _ this
        · trivial
    · trivial
end Go.Proofs.Hk

namespace Go.Proofs.Hk
open Go

def valOf : HV → Value
  | .v x => x
  | _ => undef
theorem isU8_eq {x : HV} (h : isU8 x = true) : ∃ n, x = .v (.int .u8 n) := by
  cases x with
  | v y =>
    cases y with
    | int k n => cases k <;> first | exact ⟨n, rfl⟩ | cases h
    | _ => cases h
  | _ => cases h
theorem relAts_u8 {G : Ghost} {rd : Nat → Option Value} : ∀ {l : List HV} {o : Nat}, relAts G l rd o 1 → l.all isU8 = true → ∀ j, j < l.length → rd (o + j) = (l.map valOf)[j]?
  | [], o, _, _, j, hj => by simp at hj
  | x :: xs, o, h, hu, j, hj => by
    simp only [relAts] at h
    obtain ⟨⟨cs, hc, _, hr, hx⟩, h2⟩ := h
    simp only [List.all_cons, Bool.and_eq_true] at hu
    obtain ⟨n, rfl⟩ := isU8_eq hu.1
    cases j with
    | zero =>
      simp only [relC] at hx
      have := hr 0 (by omega)
      rw [hx.1] at this
      simpa [valOf] using this
    | succ j =>
      have := relAts_u8 h2 hu.2 j (by simpa using hj)
      rw [show o + 1 + j = o + (j + 1) from by omega] at this
      simpa using this
theorem relCs_u8 {G : Ghost} : ∀ {l : List HV} {us : List Value}, relCs G l us → l.all isU8 = true → us = l.map valOf
  | [], us, h, _ => by simpa [relCs] using h
  | x :: xs, us, h, hu => by
    simp only [relCs] at h
    obtain ⟨u, us', rfl, h1, h2⟩ := h
    simp only [List.all_cons, Bool.and_eq_true] at hu
    obtain ⟨n, rfl⟩ := isU8_eq hu.1
    have := leaf_v h1.2
    subst this
    rw [relCs_u8 h2 hu.2]
    rfl
theorem run_pushes {P : Program} {w : World} (f : Value → ByteArray → Sem (ForInStep ByteArray)) (hf : ∀ n s, f (.int .u8 n) s = pure (ForInStep.yield (s.push (UInt8.ofNat n.toNat)))) : ∀ (l : List HV) (s : ByteArray), l.all isU8 = true →
    (forIn (l.map valOf) s f : Sem ByteArray).run P w = .ok ⟨s.data ++ (l.map byteOf).toArray⟩ w
  | [], s, _ => by simp [Sem.run_pure]
  | x :: xs, s, hu => by
    simp only [List.all_cons, Bool.and_eq_true] at hu
    obtain ⟨n, rfl⟩ := isU8_eq hu.1
    simp only [List.map_cons, valOf, List.forIn_cons, hf, pure_bind]
    rw [run_pushes f hf xs _ hu.2]
    simp [byteOf, ByteArray.push]
theorem run_bytesStr {P : Program} {w : World} {b o c : Nat} {l : List HV} (hu : l.all isU8 = true) (h : ∀ j, j < l.length → w.cell? ⟨b, o + j, none⟩ = (l.map valOf)[j]?) :
    (Conv.bytesToString (.slice (some ⟨b, o, none⟩) l.length c)).run P w = .ok (.string ⟨(l.map byteOf).toArray⟩) w := by
  have hl := run_cells (P := P) (w := w) (b := b) (o := o) (xs := l.map valOf) (by simpa using h)
  rw [List.length_map] at hl
  simp only [Conv.bytesToString, Sem.run_bind, hl, Result.andThen_ok]
  simp only [List.forIn_toArray]
  rw [run_pushes _ (fun _ _ => rfl) l _ hu]
  simp [Result.andThen_ok, Sem.run_pure]

theorem isBytes_ok {c : Cx} {t : TypeId} {w : World} (h : isBytes c t = true) : ∃ e, (underlying t).run c.P w = .ok (.slice e) w ∧ (underlying e).run c.P w = .ok (.int .u8) w := by
  unfold isBytes at h
  split at h
  · cases h
  · rename_i e he
    split at h
    · rename_i hd
      refine ⟨e, ?_, (c.ty_ok e _ hd).int rfl⟩
      unfold sliceElemT at he
      split at he
      · rename_i e' hd'
        cases he
        exact (c.ty_ok t _ hd').slice rfl
      · cases he
    · cases h
theorem bytesStr_ok (c : Cx) {s : HS} {G : Ghost} {w : World} (hs : SRel G s w) {src dst : TypeId} (hsrc : isBytes c src = true) (hdst : (underlying dst).run c.P w = .ok .string w) {x : HV} {u : Value} (hx : rel G x u) :
    ResOK c.P s G w ((do pure (Next.value (← convert src dst u)) : Sem Next).run c.P w) (hbytesStr x) := by
  obtain ⟨e, h1, h2⟩ := isBytes_ok (w := w) hsrc
  have conv : ∀ u, (∃ a n m, u = .slice a n m) → ∀ v, (Conv.bytesToString u).run c.P w = .ok v w → (do pure (Next.value (← convert src dst u)) : Sem Next).run c.P w = .ok (.value v) w := by
    rintro u ⟨a, n, m, rfl⟩ v hv
    have : (convert src dst (.slice a n m)).run c.P w = .ok v w := by
      cases a <;> simp only [convert, Sem.run_bind, h1, hdst, h2, Result.andThen_ok, hv]
    simp only [Sem.run_bind, this, Result.andThen_ok, Sem.run_pure]
  unfold hbytesStr
  split
  · have := rel_v_eq hx
    subst this
    exact ⟨_, w, G, .inl (conv _ ⟨_, _, _, rfl⟩ (.string .empty) (by simp [Conv.bytesToString, Sem.run_pure])), rel_v G, .refl hs⟩
  · rename_i tk sz l
    rintro ⟨rfl, hu⟩
    rcases (rel_list hx).imp id or_comm.1 with ⟨rfl, rfl, _⟩ | ⟨rfl, _, a, rfl⟩ | ⟨b, o, cp, rfl, hcp, ha, _⟩
    · exact ⟨_, w, G, .inl (conv _ ⟨_, _, _, rfl⟩ (.string .empty) (by simp [Conv.bytesToString, Sem.run_pure])), rel_v G, .refl hs⟩
    · have hl : (loadCells a 0).run c.P w = .ok #[] w := by
        have := run_firstCells_some (P := c.P) w 1 0 a 0 0 [] (by simp) (fun j u e => by simp at e)
        simpa [Builtin.firstCells] using this
      exact ⟨_, w, G, .inl (conv _ ⟨_, _, _, rfl⟩ (.string .empty) (by simp only [Conv.bytesToString, Sem.run_bind, hl, Result.andThen_ok]; simp [Sem.run_pure])), rel_v G, .refl hs⟩
    · have hr := relAts_u8 ha hu
      refine ⟨_, w, G, .inl (conv _ ⟨_, _, _, rfl⟩ _ (run_bytesStr hu fun j hj => ?_)), rel_v G, .refl hs⟩
      have := hr j hj
      rw [List.getElem?_eq_getElem (by simpa using hj)] at this ⊢
      exact hs.kw _ _ _ this
  · rename_i r off len cap sz
    intro rx hg
    obtain ⟨b, hb, rfl⟩ := rel_arr hx
    cases rx with
    | cells cs t =>
      rintro ⟨hle, hu⟩
      have hh := hs.holds r _ (hget_mem hg)
      obtain ⟨b', vs, e1, _, hhp, hc, _⟩ := hh
      rw [hb] at e1
      cases e1
      have hlen : ((cs.drop off).take len).length = len := by simp; omega
      have := relCs_length hc
      have hus : (vs.toList.drop off).take len = ((cs.drop off).take len).map valOf := relCs_u8 (relCs_take len (relCs_drop off hc)) hu
      have run := run_bytesStr (P := c.P) (w := w) (b := b) (o := off) (c := cap) hu fun j hj => by
        rw [← hus]
        rw [hlen] at hj
        rw [List.getElem?_take, if_pos hj, List.getElem?_drop]
        simp only [World.cell?, hhp, Option.isSome_none, Bool.false_eq_true, if_false]
        simp
      rw [hlen] at run
      exact ⟨_, w, G, .inl (conv _ ⟨_, _, _, rfl⟩ _ run), rel_v G, .refl hs⟩
    | map _ => trivial
    | tok _ => trivial
    | void => trivial
  · trivial
end Go.Proofs.Hk

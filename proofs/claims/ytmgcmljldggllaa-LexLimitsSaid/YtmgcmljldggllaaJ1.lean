import Derived.Test.YtmgcmljldggllaaL8
set_option linter.unusedSimpArgs false
set_option linter.unusedVariables false
namespace Go.Proofs.Hk
open Go Go.Proofs

/-! LexJoins: a text within a longer one. -/
structure Emb (T S : ByteArray) (off : Nat) : Prop where
  sub : T.extract off (off + S.size) = S
  le : off + S.size ≤ T.size
/-- Behind it: nothing, or a blank. -/
def Beh (T : ByteArray) (e : Nat) : Prop := e = T.size ∨ byteAt T e = 10 ∨ byteAt T e = 32
section
variable {T S : ByteArray} {off : Nat}
theorem Emb.ext (h : Emb T S off) {i j : Nat} (hj : j ≤ S.size) : S.extract i j = T.extract (off + i) (off + j) := by
  conv => lhs; rw [← h.sub]
  rw [ByteArray.extract_extract, Nat.min_eq_left (by omega)]
theorem Emb.byte (h : Emb T S off) {i : Nat} (hi : i < S.size) : byteAt T ((off + i : Nat) : Int) = byteAt S i := by
  have e := h.ext (i := i) (j := S.size) (Nat.le_refl _)
  rw [← byteAt_sub S i hi, e, byteAt_sub2 T (off + i) (off + S.size) (by omega) h.le]
theorem Emb.scan (h : Emb T S off) {p : Int → Bool} (hp : off + S.size = T.size ∨ p (byteAt T ((off + S.size : Nat) : Int)) = false) : ∀ {n i : Nat}, S.size - i = n → i ≤ S.size → Hk.scan p T (off + i) = off + Hk.scan p S i
  | 0, i, hn, hi => by
    have : i = S.size := by omega
    subst this
    rw [scan_end (s := S) (i := S.size) (by omega)]
    rcases hp with hp | hp
    · exact scan_end (by omega)
    · exact scan_no hp
  | n + 1, i, hn, hi => by
    cases hq : p (byteAt S i) with
    | true =>
      rw [← scan_yes (i := i) (by omega) hq, ← scan_yes (i := off + i) (by have := h.le; omega) (by rw [h.byte (by omega)]; exact hq), Nat.add_assoc]
      exact Emb.scan h hp (n := n) (by omega) (by omega)
    | false =>
      rw [scan_no hq, scan_no (by rw [h.byte (by omega)]; exact hq)]
theorem Emb.scanIn (h : Emb T S off) {p : Int → Bool} : ∀ {n i : Nat}, S.size - i = n → i ≤ S.size → Hk.scan p S i < S.size → Hk.scan p T (off + i) = off + Hk.scan p S i
  | 0, i, hn, hi, hs => by
    rw [scan_end (s := S) (i := i) (by omega)] at hs; omega
  | n + 1, i, hn, hi, hs => by
    cases hq : p (byteAt S i) with
    | true =>
      rw [← scan_yes (i := i) (by omega) hq] at hs ⊢
      rw [← scan_yes (i := off + i) (by have := h.le; omega) (by rw [h.byte (by omega)]; exact hq), Nat.add_assoc]
      exact Emb.scanIn h (n := n) (by omega) (by omega) hs
    | false =>
      rw [scan_no hq, scan_no (by rw [h.byte (by omega)]; exact hq)]
def shiftT (off : Nat) (t : Tk) : Tk := ⟨t.kind, t.text, off + t.pos⟩
def Nxt.shift (off : Nat) : Nxt → Nxt
  | .skip j => .skip (off + j)
  | .tok t j => .tok (shiftT off t) (off + j)
  | .err e => .err e
theorem two_no (h : Emb T S off) (hb : Beh T (off + S.size)) {i : Nat} (hi : i + 1 = S.size) : ¬ (off + i + 1 < T.size ∧ twoS (T.extract (off + i) (off + i + 2)) = true) := by
  rintro ⟨h1, h2⟩
  have hle := h.le
  rcases hb with hb | hb
  · omega
  · have e : byteAt T ((off + S.size : Nat) : Int) = byteAt (T.extract (off + i) (off + i + 2)) 1 := by
      rw [show off + S.size = off + i + 1 from by omega]
      unfold byteAt
      congr 2
      rw [ByteArray.data_extract, Array.toList_extract]
      simp only [List.extract_eq_take_drop]
      rw [show off + i + 2 - (off + i) = 2 from by omega]
      have z : ((off : Int) + i + 1).toNat = off + i + 1 := by omega
      simp [List.getD_eq_getElem?_getD, List.getElem?_take, z]
    simp only [twoS, Bool.or_eq_true] at h2
    rcases h2 with (((h2 | h2) | h2) | h2) | h2 <;> (have h2 := strEq_eq h2; rw [h2] at e; rw [e] at hb; revert hb; decide)
theorem Emb.sign (h : Emb T S off) (hb : Beh T (off + S.size)) {i : Nat} (hi : i < S.size) : signS (T.extract (off + i) T.size) = signS (S.extract i S.size) := by
  have hle := h.le
  rw [signS_at T (off + i) (by omega), signS_at S i hi, h.byte hi]
  by_cases h1 : i + 1 < S.size
  · rw [h.ext (i := i) (j := i + 2) (by omega)]
    simp only [show off + (i + 2) = off + i + 2 from rfl]
    have : (off + i + 1 < T.size) = True := by simp; omega
    simp [this, h1]
  · rw [if_neg (two_no h hb (by omega))]
    simp [h1]
theorem beh_scan (hb : Beh T (off + S.size)) {p : Int → Bool} (h1 : p 10 = false) (h2 : p 32 = false) : off + S.size = T.size ∨ p (byteAt T ((off + S.size : Nat) : Int)) = false := by
  rcases hb with hb | hb | hb
  · exact .inl hb
  · right; rw [hb]; exact h1
  · right; rw [hb]; exact h2
/-- What comes next is what comes next in the part: but for a remark that goes on behind it. -/
theorem Emb.nxt (h : Emb T S off) (hb : Beh T (off + S.size)) {i : Nat} (hi : i < S.size) (hr : byteAt S i = 35 → off + S.size = T.size ∨ byteAt T ((off + S.size : Nat) : Int) = 10 ∨ Hk.scan (fun b => b != 10) S i < S.size) : Hk.nxt T (off + i) = (Hk.nxt S i).shift off := by
  have hle := h.le
  have sw : Hk.scan wordZ T (off + i) = off + Hk.scan wordZ S i := h.scan (beh_scan hb (by decide) (by decide)) rfl (by omega)
  have sd : Hk.scan digitZ T (off + i) = off + Hk.scan digitZ S i := h.scan (beh_scan hb (by decide) (by decide)) rfl (by omega)
  have lw := scan_le wordZ S i (by omega)
  have ld := scan_le digitZ S i (by omega)
  have xw := h.ext (i := i) lw
  have xd := h.ext (i := i) ld
  have sg := h.sign hb hi
  have mr : (decide (off + Hk.scan digitZ S i < T.size) && wordZ (byteAt T ((off + Hk.scan digitZ S i : Nat) : Int))) = (decide (Hk.scan digitZ S i < S.size) && wordZ (byteAt S (Hk.scan digitZ S i))) := by
    by_cases hz : Hk.scan digitZ S i < S.size
    · rw [h.byte hz]
      simp [hz]; omega
    · rw [decide_eq_false hz, Bool.false_and, show Hk.scan digitZ S i = S.size from by omega]
      rcases hb with hb | hb | hb
      · simp [hb]
      · rw [hb]; simp [show wordZ 10 = false from by decide]
      · rw [hb]; simp [show wordZ 32 = false from by decide]
  have gs := signS_le (S.extract i S.size) (by simp; omega)
  simp only [ByteArray.size_extract, Nat.min_self] at gs
  have xs := h.ext (i := i) (j := i + signS (S.extract i S.size)) (by omega)
  unfold Hk.nxt
  rw [h.byte hi]
  by_cases c1 : blankZ (byteAt S i) = true
  · simp [c1, Nxt.shift, Nat.add_assoc]
  · rw [if_neg c1, if_neg c1]
    by_cases c2 : byteAt S i = 35
    · rw [if_pos c2, if_pos c2]
      have sc : Hk.scan (fun b => b != 10) T (off + i) = off + Hk.scan (fun b => b != 10) S i := by
        rcases hr c2 with hr | hr | hr
        · exact h.scan (.inl hr) rfl (by omega)
        · exact h.scan (.inr (by rw [hr]; rfl)) rfl (by omega)
        · exact h.scanIn rfl (by omega) hr
      rw [sc]; rfl
    · rw [if_neg c2, if_neg c2]
      by_cases c3 : letterZ (byteAt S i) = true
      · rw [if_pos c3, if_pos c3, sw, ← xw]
        split <;> rfl
      · rw [if_neg c3, if_neg c3]
        by_cases c4 : digitZ (byteAt S i) = true
        · rw [if_pos c4, if_pos c4, sd, ← xd, mr]
          split <;> rfl
        · rw [if_neg c4, if_neg c4, sg]
          by_cases c5 : signS (S.extract i S.size) = 0
          · rw [if_pos c5, if_pos c5]; rfl
          · rw [if_neg c5, if_neg c5, Nat.add_assoc, ← xs]; rfl
end
theorem nxt_le {S : ByteArray} {i : Nat} (hi : i < S.size) : (∀ j, nxt S i = .skip j → i < j ∧ j ≤ S.size) ∧ (∀ t j, nxt S i = .tok t j → i < j ∧ j ≤ S.size ∧ t.pos = i) := by
  have lw := scan_le wordZ S i (by omega)
  have ld := scan_le digitZ S i (by omega)
  have lr := scan_le (fun b => b != 10) S i (by omega)
  have gs := signS_le (S.extract i S.size) (by simp; omega)
  simp only [ByteArray.size_extract, Nat.min_self] at gs
  unfold nxt
  split
  · exact ⟨fun j e => by cases e; omega, fun t j e => by cases e⟩
  · split
    · rename_i h
      have := scan_lt (p := fun b => b != 10) hi (by simp only [h]; decide)
      exact ⟨fun j e => by cases e; omega, fun t j e => by cases e⟩
    · split
      · rename_i h
        have := scan_lt (p := wordZ) hi (by simp [wordZ, h])
        split
        · exact ⟨fun j e => (by cases e), fun t j e => (by cases e)⟩
        · exact ⟨fun j e => (by cases e), fun t j e => by cases e; exact ⟨this, lw, rfl⟩⟩
      · split
        · rename_i h
          have := scan_lt (p := digitZ) hi h
          split
          · exact ⟨fun j e => (by cases e), fun t j e => (by cases e)⟩
          · exact ⟨fun j e => (by cases e), fun t j e => by cases e; exact ⟨this, ld, rfl⟩⟩
        · split
          · exact ⟨fun j e => (by cases e), fun t j e => (by cases e)⟩
          · exact ⟨fun j e => (by cases e), fun t j e => by cases e; exact ⟨by omega, by omega, rfl⟩⟩
theorem lexL_tokJ {s : ByteArray} {i j : Nat} {t : Tk} {l : List Tk} (h : i < s.size) (hj : i < j) (hn : nxt s i = .tok t j) (hl : lexL s i = .ok l) : ∃ l', lexL s j = .ok l' ∧ l = t :: l' := by
  have := lexL_tok h hj hn []
  rw [hl] at this
  cases he : lexL s j with
  | ok l' => rw [he] at this; exact ⟨l', rfl, by simpa [comb] using this.symm⟩
  | error e => rw [he] at this; simp [comb] at this
def shiftR (off : Nat) : Except (Int × Nat) (List Tk) → Except (Int × Nat) (List Tk)
  | .ok l => .ok (l.map (shiftT off))
  | .error (e, p) => .error (e, off + p)
theorem lexL_shift {T S : ByteArray} {off : Nat} (h : Emb T S off) (he : off + S.size = T.size) : ∀ (n i : Nat), S.size - i = n → lexL T (off + i) = shiftR off (lexL S i) := by
  intro n
  induction n using Nat.strongRecOn with
  | _ n ih =>
    intro i hn
    by_cases hi : i < S.size
    · have hx := h.nxt (.inl he) hi (fun _ => .inl he)
      unfold lexL
      rw [dif_pos hi, dif_pos (by omega), hx]
      have e : ∀ j, max (off + i + 1) (off + j) = off + max (i + 1) j := fun j => by omega
      cases hq : nxt S i with
      | skip j =>
        simp only [Nxt.shift, e]
        exact ih _ (by omega) _ rfl
      | tok t j =>
        simp only [Nxt.shift, e]
        rw [ih _ (by omega) _ rfl]
        cases lexL S (max (i + 1) j) <;> rfl
      | err e => rfl
    · rw [lexL_end (by omega), lexL_end hi]
      simp only [shiftR, List.map_cons, List.map_nil, shiftT, he]
theorem lexL_join {T a : ByteArray} {c : Nat} (h : Emb T a 0) (hb : byteAt T a.size = 10 ∨ byteAt T a.size = 32) (hc : lexL T a.size = lexL T c) (hr : ∀ i, i < a.size → byteAt a i = 35 → scan (fun b => b != 10) a i = a.size → lexL T i = lexL T c) :
    ∀ (n i : Nat), a.size - i = n → i ≤ a.size → ∀ l, lexL a i = .ok l → ∃ l', l = l' ++ [⟨0, ⟨#[]⟩, a.size⟩] ∧ comb l' (lexL T c) = lexL T i := by
  have hle := h.le
  have hb' : Beh T (0 + a.size) := .inr (by rwa [Nat.zero_add])
  intro n
  induction n using Nat.strongRecOn with
  | _ n ih =>
    intro i hn hia l hl
    rcases Nat.eq_or_lt_of_le hia with rfl | hi
    · rw [lexL_end (by omega)] at hl
      cases hl
      exact ⟨[], rfl, by rw [hc]; cases lexL T c <;> rfl⟩
    · by_cases hz : byteAt a i = 35 ∧ scan (fun b => b != 10) a i = a.size
      · have e := nxt_line (s := a) (j := i) (by rw [hz.1]; decide) hz.1
        rw [lexL_skip hi (by omega) e, hz.2, lexL_end (by omega)] at hl
        cases hl
        exact ⟨[], rfl, by rw [hr i hi hz.1 hz.2]; cases lexL T c <;> rfl⟩
      · have hx := h.nxt hb' hi (fun h35 => .inr (.inr (by
          have := scan_le (fun b => b != 10) a i (by omega)
          have : scan (fun b => b != 10) a i ≠ a.size := fun e => hz ⟨h35, e⟩
          omega)))
        simp only [Nat.zero_add] at hx
        obtain ⟨n1, n2⟩ := nxt_le hi
        cases hq : nxt a i with
        | skip j =>
          obtain ⟨j1, j2⟩ := n1 j hq
          rw [hq] at hx
          simp only [Nxt.shift, Nat.zero_add] at hx
          rw [lexL_skip hi j1 hq] at hl
          rw [lexL_skip (by omega) j1 hx]
          exact ih _ (by omega) j rfl j2 l hl
        | tok t j =>
          obtain ⟨j1, j2, j3⟩ := n2 t j hq
          rw [hq] at hx
          have et : shiftT 0 t = t := by cases t; simp [shiftT]
          simp only [Nxt.shift, Nat.zero_add, et] at hx
          obtain ⟨l1, h1, rfl⟩ := lexL_tokJ hi j1 hq hl
          obtain ⟨l', e1, e2⟩ := ih _ (by omega) j rfl j2 l1 h1
          subst e1
          refine ⟨t :: l', rfl, ?_⟩
          have := lexL_tok (s := T) (by omega) j1 hx []
          have z : ∀ r, comb [] r = r := fun r => by cases r <;> rfl
          rw [z, List.nil_append, ← e2] at this
          rw [← this]
          cases lexL T c <;> rfl
        | err e =>
          rw [lexL_err hi hq] at hl; cases hl
theorem scan_to {p : Int → Bool} {s : ByteArray} {e : Nat} : ∀ {i : Nat}, (∀ q, i ≤ q → q < e → p (byteAt s q) = true) → e ≤ s.size → i ≤ e → scan p s i = scan p s e := by
  intro i h he hi
  obtain ⟨n, rfl⟩ : ∃ n, e = i + n := ⟨e - i, by omega⟩
  clear hi
  induction n generalizing i with
  | zero => rfl
  | succ n ih =>
    rw [← scan_yes (i := i) (by omega) (h i (by omega) (by omega)), show i + (n + 1) = (i + 1) + n from by omega]
    exact ih (fun q q1 q2 => h q (by omega) (by omega)) (by omega)
theorem skips {T : ByteArray} {j k : Nat} (hj : j < T.size) (hk : nxt T j = .skip k) (h : j < k) : lexL T j = lexL T k := lexL_skip hj h hk
theorem byte_app {a b : ByteArray} {i : Nat} (h : i < b.size) : byteAt (a ++ b) ((a.size + i : Nat) : Int) = byteAt b i := by
  refine Emb.byte (S := b) (off := a.size) ⟨?_, by simp⟩ h
  exact ByteArray.extract_append_eq_right rfl rfl
theorem joins1 (a b : ByteArray) {la lb : List Tk} (ha : lexL a 0 = .ok la) (hb : lexL b 0 = .ok lb) (mid : ByteArray) (m : Nat) (hm : mid.size = m + 1) (h10 : byteAt mid m = 10) (hno : ∀ i, i < m → byteAt mid i ≠ 10) (hf : (m = 0) ∨ (byteAt mid 0 = 32 ∧ byteAt mid 1 = 35 ∧ 2 ≤ m)) :
    ∃ l', la = l' ++ [⟨0, ⟨#[]⟩, a.size⟩] ∧ lexL (a ++ mid ++ b) 0 = .ok (l' ++ lb.map (shiftT (a.size + mid.size))) := by
  have sz : (a ++ mid ++ b).size = a.size + (m + 1) + b.size := by simp [hm]
  have ea : Emb (a ++ mid ++ b) a 0 := ⟨by rw [ByteArray.append_assoc]; exact ByteArray.extract_append_eq_left (by omega), by omega⟩
  have em : Emb (a ++ mid ++ b) mid a.size := ⟨by
    have := ByteArray.extract_append_size_add (a := a) (b := mid ++ b) (i := 0) (j := mid.size)
    rw [Nat.add_zero] at this
    rw [ByteArray.append_assoc, this]
    exact ByteArray.extract_append_eq_left rfl, by omega⟩
  have eb : Emb (a ++ mid ++ b) b (a.size + mid.size) := ⟨ByteArray.extract_append_eq_right (by simp) (by simp), by omega⟩
  generalize a ++ mid ++ b = T at *
  have bm : ∀ i, i < m + 1 → byteAt T ((a.size + i : Nat) : Int) = byteAt mid i := fun i hi => em.byte (by omega)
  have hend : lexL T (a.size + m) = lexL T (a.size + mid.size) := by
    have e : byteAt T ((a.size + m : Nat) : Int) = 10 := by rw [bm m (by omega), h10]
    rw [hm]
    exact lexL_skip (by omega) (by omega) (nxt_blank (by rw [e]; decide))
  have hcom : ∀ i, i < T.size → byteAt T i = 35 → (∀ q, i ≤ q → q < a.size + m → byteAt T q ≠ 10) → i ≤ a.size + m → lexL T i = lexL T (a.size + mid.size) := fun i h1 h2 h3 h4 => by
    have e : scan (fun b => b != 10) T i = a.size + m := by
      rw [scan_to (e := a.size + m) (fun q q1 q2 => by simpa using h3 q q1 q2) (by omega) h4]
      exact scan_no (by rw [bm m (by omega), h10]; rfl)
    have hn := nxt_line (s := T) (j := i) (by rw [h2]; decide) h2
    rw [e] at hn
    have hlt : i < a.size + m := by
      rcases Nat.eq_or_lt_of_le h4 with h5 | h5
      · rw [h5, bm m (by omega), h10] at h2; omega
      · exact h5
    rw [lexL_skip h1 hlt hn, hend]
  have hc : lexL T a.size = lexL T (a.size + mid.size) := by
    rcases hf with rfl | ⟨f0, f1, f2⟩
    · exact hend
    · have e0 := bm 0 (by omega)
      have e1 := bm 1 (by omega)
      simp only [Nat.add_zero] at e0
      rw [lexL_skip (j := a.size + 1) (by omega) (by omega) (nxt_blank (by rw [e0]; simp only [Int.natCast_zero] ; rw [f0]; decide))]
      refine hcom (a.size + 1) (by omega) (by rw [e1]; exact f1) (fun q q1 q2 => ?_) (by omega)
      have := bm (q - a.size) (by omega)
      rw [show a.size + (q - a.size) = q from by omega] at this
      rw [this]; exact hno _ (by omega)
  have hb0 : byteAt T a.size = 10 ∨ byteAt T a.size = 32 := by
    have e0 := bm 0 (by omega)
    simp only [Nat.add_zero, Int.natCast_zero] at e0
    rw [e0]
    rcases hf with rfl | ⟨f0, _, _⟩
    · left; exact h10
    · right; exact f0
  obtain ⟨l', e1, e2⟩ := lexL_join ea hb0 hc (fun i hi h35 hs => by
    refine hcom i (by omega) ?_ (fun q q1 q2 => ?_) (by omega)
    · have := ea.byte hi
      simp only [Nat.zero_add] at this
      rw [this, h35]
    · by_cases hq : q < a.size
      · have := ea.byte hq
        simp only [Nat.zero_add] at this
        rw [this]
        have := scan_in (p := fun b => b != 10) rfl q q1 (by rw [hs]; exact hq)
        simpa using this
      · have := bm (q - a.size) (by omega)
        rw [show a.size + (q - a.size) = q from by omega] at this
        rw [this]; exact hno _ (by omega)) a.size 0 rfl (by omega) la ha
  refine ⟨l', e1, ?_⟩
  have := lexL_shift eb (by omega) b.size 0 rfl
  rw [Nat.add_zero, hb] at this
  rw [← e2, this]
  rfl
end Go.Proofs.Hk

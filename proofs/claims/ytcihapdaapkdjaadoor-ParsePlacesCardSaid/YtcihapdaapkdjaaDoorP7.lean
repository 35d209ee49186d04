import Derived.Test.YtcihapdaapkdjaaDoorP5
set_option linter.unusedSimpArgs false
set_option linter.unusedVariables false
namespace Go.Proofs.Hk.Lx
open Go Go.Proofs

/-! A text within a longer one, blanks behind it. -/
theorem strEq_to {a b : ByteArray} (h : strEq a b = true) : a = b := strEq_eq.1 h
theorem byteAt_sub (s : ByteArray) (i : Nat) (h : i < s.size) : byteAt (s.extract i s.size) 0 = byteAt s i := by
  unfold byteAt
  congr 2
  have h2 : i < s.data.size := h
  have e : (s.extract i s.size).data.toList = s.data.toList.drop i := by
    rw [ByteArray.data_extract, Array.toList_extract]
    simp only [List.extract_eq_take_drop]
    exact List.take_of_length_le (by simp)
  rw [e]
  simp [List.getD_eq_getElem?_getD]
theorem signS_at (s : ByteArray) (i : Nat) (h : i < s.size) : signS (s.extract i s.size) = if i + 1 < s.size ∧ twoS (s.extract i (i + 2)) = true then 2 else if oneZ (byteAt s i) = true then 1 else 0 := by
  unfold signS
  rw [byteAt_sub s i h]
  have e1 : 1 < (s.extract i s.size).size ↔ i + 1 < s.size := by
    simp only [ByteArray.size_extract, Nat.min_self]
    omega
  by_cases h1 : i + 1 < s.size
  · have e2 : (s.extract i s.size).extract 0 2 = s.extract i (i + 2) := by
      rw [ByteArray.extract_extract, Nat.add_zero, Nat.min_eq_left (by omega)]
    simp only [e1, e2]
  · have h2 : ¬ 1 < (s.extract i s.size).size := fun h => h1 (e1.1 h)
    simp only [h1, h2, false_and, if_false]
theorem byteAt_sub2 (s : ByteArray) (i n : Nat) (h : i < n) (hn : n ≤ s.size) : byteAt (s.extract i n) 0 = byteAt s i := by
  unfold byteAt
  congr 2
  have e : (s.extract i n).data.toList = (s.data.toList.drop i).take (n - i) := by
    rw [ByteArray.data_extract, Array.toList_extract]
    first | done | simp only [List.extract_eq_take_drop]
  rw [e]
  have : 0 < n - i := by omega
  simp [List.getD_eq_getElem?_getD, this]

structure Emb (T S : ByteArray) (off : Nat) : Prop where
  sub : T.extract off (off + S.size) = S
  le : off + S.size ≤ T.size
/-- Behind it: nothing, or a blank. -/
def Beh (T : ByteArray) (e : Nat) : Prop := e = T.size ∨ blankZ (byteAt T e) = true
section
variable {T S : ByteArray} {off : Nat}
theorem Emb.ext (h : Emb T S off) {i j : Nat} (hj : j ≤ S.size) : S.extract i j = T.extract (off + i) (off + j) := by
  conv => lhs; rw [← h.sub]
  rw [ByteArray.extract_extract, Nat.min_eq_left (by omega)]
theorem Emb.byte (h : Emb T S off) {i : Nat} (hi : i < S.size) : byteAt T ((off + i : Nat) : Int) = byteAt S i := by
  have e := h.ext (i := i) (j := S.size) (Nat.le_refl _)
  rw [← byteAt_sub S i hi, e, byteAt_sub2 T (off + i) (off + S.size) (by omega) h.le]
theorem Emb.scan (h : Emb T S off) {p : Int → Bool} (hp : off + S.size = T.size ∨ p (byteAt T ((off + S.size : Nat) : Int)) = false) : ∀ {n i : Nat}, S.size - i = n → i ≤ S.size → Hk.scan p T (off + i) = off + Hk.scan p S i
  | 0, i, hn, hi => by
    have : i = S.size := by omega
    subst this
    rw [scan_end (s := S) (i := S.size) (by omega)]
    rcases hp with hp | hp
    · exact scan_end (by omega)
    · exact scan_no hp
  | n + 1, i, hn, hi => by
    cases hq : p (byteAt S i) with
    | true =>
      rw [← scan_yes (i := i) (by omega) hq, ← scan_yes (i := off + i) (by have := h.le; omega) (by rw [h.byte (by omega)]; exact hq), Nat.add_assoc]
      exact Emb.scan h hp (n := n) (by omega) (by omega)
    | false =>
      rw [scan_no hq, scan_no (by rw [h.byte (by omega)]; exact hq)]
theorem Emb.scanIn (h : Emb T S off) {p : Int → Bool} : ∀ {n i : Nat}, S.size - i = n → i ≤ S.size → Hk.scan p S i < S.size → Hk.scan p T (off + i) = off + Hk.scan p S i
  | 0, i, hn, hi, hs => by
    rw [scan_end (s := S) (i := i) (by omega)] at hs; omega
  | n + 1, i, hn, hi, hs => by
    cases hq : p (byteAt S i) with
    | true =>
      rw [← scan_yes (i := i) (by omega) hq] at hs ⊢
      rw [← scan_yes (i := off + i) (by have := h.le; omega) (by rw [h.byte (by omega)]; exact hq), Nat.add_assoc]
      exact Emb.scanIn h (n := n) (by omega) (by omega) hs
    | false =>
      rw [scan_no hq, scan_no (by rw [h.byte (by omega)]; exact hq)]
def shiftT (off : Nat) (t : Tk) : Tk := ⟨t.kind, t.text, off + t.pos⟩
def shiftN (off : Nat) : Nxt → Nxt
  | .skip j => .skip (off + j)
  | .tok t j => .tok (shiftT off t) (off + j)
  | .err e => .err e
theorem two_no (h : Emb T S off) (hb : Beh T (off + S.size)) {i : Nat} (hi : i + 1 = S.size) : ¬ (off + i + 1 < T.size ∧ twoS (T.extract (off + i) (off + i + 2)) = true) := by
  rintro ⟨h1, h2⟩
  have hle := h.le
  rcases hb with hb | hb
  · omega
  · have e : byteAt T ((off + S.size : Nat) : Int) = byteAt (T.extract (off + i) (off + i + 2)) 1 := by
      rw [show off + S.size = off + i + 1 from by omega]
      unfold byteAt
      congr 2
      rw [ByteArray.data_extract, Array.toList_extract]
      simp only [List.extract_eq_take_drop]
      rw [show off + i + 2 - (off + i) = 2 from by omega]
      have z : ((off : Int) + i + 1).toNat = off + i + 1 := by omega
      simp [List.getD_eq_getElem?_getD, List.getElem?_take, z]
    simp only [twoS, Bool.or_eq_true] at h2
    rcases h2 with (((h2 | h2) | h2) | h2) | h2 <;> (have h2 := strEq_eq.1 h2; rw [h2] at e; rw [e] at hb; revert hb; decide)
theorem Emb.sign (h : Emb T S off) (hb : Beh T (off + S.size)) {i : Nat} (hi : i < S.size) : signS (T.extract (off + i) T.size) = signS (S.extract i S.size) := by
  have hle := h.le
  rw [signS_at T (off + i) (by omega), signS_at S i hi, h.byte hi]
  by_cases h1 : i + 1 < S.size
  · rw [h.ext (i := i) (j := i + 2) (by omega)]
    simp only [show off + (i + 2) = off + i + 2 from rfl]
    have : (off + i + 1 < T.size) = True := by simp; omega
    simp [this, h1]
  · rw [if_neg (two_no h hb (by omega))]
    simp [h1]
theorem beh_scan (hb : Beh T (off + S.size)) {p : Int → Bool} (h1 : ∀ b, blankZ b = true → p b = false) : off + S.size = T.size ∨ p (byteAt T ((off + S.size : Nat) : Int)) = false := by
  rcases hb with hb | hb
  · exact .inl hb
  · right; exact h1 _ hb
theorem blank_word {b : Int} (h : blankZ b = true) : wordZ b = false := by
  have := blank_letter h
  unfold wordZ
  rw [this.1, this.2]
  simp only [blankZ, Bool.or_eq_true, beq_iff_eq] at h
  simp only [Bool.false_or]
  rw [beq_eq_false_iff_ne]; omega
/-- What comes next is what comes next in the part: but for a remark that goes on behind it. -/
theorem Emb.nxt (h : Emb T S off) (hb : Beh T (off + S.size)) {i : Nat} (hi : i < S.size) (hr : byteAt S i = 35 → off + S.size = T.size ∨ byteAt T ((off + S.size : Nat) : Int) = 10 ∨ Hk.scan (fun b => b != 10) S i < S.size) : Hk.nxt T (off + i) = shiftN off (Hk.nxt S i) := by
  have hle := h.le
  have sw : Hk.scan wordZ T (off + i) = off + Hk.scan wordZ S i := h.scan (beh_scan hb fun _ h => blank_word h) rfl (by omega)
  have sd : Hk.scan digitZ T (off + i) = off + Hk.scan digitZ S i := h.scan (beh_scan hb fun _ h => (blank_letter h).2) rfl (by omega)
  have lw := scan_le wordZ S i (by omega)
  have ld := scan_le digitZ S i (by omega)
  have xw := h.ext (i := i) lw
  have xd := h.ext (i := i) ld
  have sg := h.sign hb hi
  have mr : (decide (off + Hk.scan digitZ S i < T.size) && wordZ (byteAt T ((off + Hk.scan digitZ S i : Nat) : Int))) = (decide (Hk.scan digitZ S i < S.size) && wordZ (byteAt S (Hk.scan digitZ S i))) := by
    by_cases hz : Hk.scan digitZ S i < S.size
    · rw [h.byte hz]
      simp [hz]; omega
    · rw [decide_eq_false hz, Bool.false_and, show Hk.scan digitZ S i = S.size from by omega]
      rcases hb with hb | hb
      · simp [hb]
      · rw [blank_word hb]; simp
  have gs := signS_le (S.extract i S.size) (by simp; omega)
  simp only [ByteArray.size_extract, Nat.min_self] at gs
  have xs := h.ext (i := i) (j := i + signS (S.extract i S.size)) (by omega)
  unfold Hk.nxt
  rw [h.byte hi]
  by_cases c1 : blankZ (byteAt S i) = true
  · simp [c1, shiftN, Nat.add_assoc]
  · rw [if_neg c1, if_neg c1]
    by_cases c2 : byteAt S i = 35
    · rw [if_pos c2, if_pos c2]
      have sc : Hk.scan (fun b => b != 10) T (off + i) = off + Hk.scan (fun b => b != 10) S i := by
        rcases hr c2 with hr | hr | hr
        · exact h.scan (.inl hr) rfl (by omega)
        · exact h.scan (.inr (by rw [hr]; rfl)) rfl (by omega)
        · exact h.scanIn rfl (by omega) hr
      rw [sc]; rfl
    · rw [if_neg c2, if_neg c2]
      by_cases c3 : letterZ (byteAt S i) = true
      · rw [if_pos c3, if_pos c3, sw, ← xw]
        split <;> rfl
      · rw [if_neg c3, if_neg c3]
        by_cases c4 : digitZ (byteAt S i) = true
        · rw [if_pos c4, if_pos c4, sd, ← xd, mr]
          split <;> rfl
        · rw [if_neg c4, if_neg c4, sg]
          by_cases c5 : signS (S.extract i S.size) = 0
          · rw [if_pos c5, if_pos c5]; rfl
          · rw [if_neg c5, if_neg c5, Nat.add_assoc, ← xs]; rfl
end
theorem nxt_le {S : ByteArray} {i : Nat} (hi : i < S.size) : (∀ j, nxt S i = .skip j → i < j ∧ j ≤ S.size) ∧ (∀ t j, nxt S i = .tok t j → i < j ∧ j ≤ S.size ∧ t.pos = i) := by
  have lw := scan_le wordZ S i (by omega)
  have ld := scan_le digitZ S i (by omega)
  have lr := scan_le (fun b => b != 10) S i (by omega)
  have gs := signS_le (S.extract i S.size) (by simp; omega)
  simp only [ByteArray.size_extract, Nat.min_self] at gs
  unfold nxt
  split
  · exact ⟨fun j e => by cases e; omega, fun t j e => by cases e⟩
  · split
    · rename_i h
      have := scan_lt (p := fun b => b != 10) hi (by simp only [h]; decide)
      exact ⟨fun j e => by cases e; omega, fun t j e => by cases e⟩
    · split
      · rename_i h
        have := scan_lt (p := wordZ) hi (by simp [wordZ, h])
        split
        · exact ⟨fun j e => (by cases e), fun t j e => (by cases e)⟩
        · exact ⟨fun j e => (by cases e), fun t j e => by cases e; exact ⟨this, lw, rfl⟩⟩
      · split
        · rename_i h
          have := scan_lt (p := digitZ) hi h
          split
          · exact ⟨fun j e => (by cases e), fun t j e => (by cases e)⟩
          · exact ⟨fun j e => (by cases e), fun t j e => by cases e; exact ⟨this, ld, rfl⟩⟩
        · split
          · exact ⟨fun j e => (by cases e), fun t j e => (by cases e)⟩
          · exact ⟨fun j e => (by cases e), fun t j e => by cases e; exact ⟨by omega, by omega, rfl⟩⟩
theorem lexL_tokJ {s : ByteArray} {i j : Nat} {t : Tk} {l : List Tk} (h : i < s.size) (hj : i < j) (hn : nxt s i = .tok t j) (hl : lexL s i = .ok l) : ∃ l', lexL s j = .ok l' ∧ l = t :: l' := by
  have := lexL_tok h hj hn []
  rw [hl] at this
  cases he : lexL s j with
  | ok l' => rw [he] at this; exact ⟨l', rfl, by simpa [comb] using this.symm⟩
  | error e => rw [he] at this; simp [comb] at this
def shiftR (off : Nat) : Except (Int × Nat) (List Tk) → Except (Int × Nat) (List Tk)
  | .ok l => .ok (l.map (shiftT off))
  | .error (e, p) => .error (e, off + p)
theorem lexL_shift {T S : ByteArray} {off : Nat} (h : Emb T S off) (he : off + S.size = T.size) : ∀ (n i : Nat), S.size - i = n → lexL T (off + i) = shiftR off (lexL S i) := by
  intro n
  induction n using Nat.strongRecOn with
  | _ n ih =>
    intro i hn
    by_cases hi : i < S.size
    · have hx := h.nxt (.inl he) hi (fun _ => .inl he)
      unfold lexL
      rw [dif_pos hi, dif_pos (by omega), hx]
      have e : ∀ j, max (off + i + 1) (off + j) = off + max (i + 1) j := fun j => by omega
      cases hq : nxt S i with
      | skip j =>
        simp only [shiftN, e]
        exact ih _ (by omega) _ rfl
      | tok t j =>
        simp only [shiftN, e]
        rw [ih _ (by omega) _ rfl]
        cases lexL S (max (i + 1) j) <;> rfl
      | err e => rfl
    · rw [lexL_end (by omega), lexL_end hi]
      simp only [shiftR, List.map_cons, List.map_nil, shiftT, he]
theorem scan_to {p : Int → Bool} {s : ByteArray} {e : Nat} : ∀ {i : Nat}, (∀ q, i ≤ q → q < e → p (byteAt s q) = true) → e ≤ s.size → i ≤ e → scan p s i = scan p s e := by
  intro i h he hi
  obtain ⟨n, rfl⟩ : ∃ n, e = i + n := ⟨e - i, by omega⟩
  clear hi
  induction n generalizing i with
  | zero => rfl
  | succ n ih =>
    rw [← scan_yes (i := i) (by omega) (h i (by omega) (by omega)), show i + (n + 1) = (i + 1) + n from by omega]
    exact ih (fun q q1 q2 => h q (by omega) (by omega)) (by omega)
theorem skips {T : ByteArray} {j k : Nat} (hj : j < T.size) (hk : nxt T j = .skip k) (h : j < k) : lexL T j = lexL T k := lexL_skip hj h hk
theorem byte_app {a b : ByteArray} {i : Nat} (h : i < b.size) : byteAt (a ++ b) ((a.size + i : Nat) : Int) = byteAt b i := by
  refine Emb.byte (S := b) (off := a.size) ⟨?_, by simp⟩ h
  exact ByteArray.extract_append_eq_right rfl rfl

end Go.Proofs.Hk.Lx

set_option linter.unusedSimpArgs false
set_option linter.unusedVariables false
namespace Go.Proofs.Hk.Lx
open Go Go.Proofs

/-! Texts made of tokens and what stands between. -/
theorem Emb.left {T A B : ByteArray} {off : Nat} (h : Emb T (A ++ B) off) : Emb T A off := by
  have hs : (A ++ B).size = A.size + B.size := by simp
  have hle := h.le
  refine ⟨?_, by omega⟩
  have := h.ext (i := 0) (j := A.size) (by omega)
  rw [Nat.add_zero] at this
  rw [← this]
  exact ByteArray.extract_append_eq_left rfl
theorem Emb.right {T A B : ByteArray} {off : Nat} (h : Emb T (A ++ B) off) : Emb T B (off + A.size) := by
  have hs : (A ++ B).size = A.size + B.size := by simp
  have hle := h.le
  refine ⟨?_, by omega⟩
  have := h.ext (i := A.size) (j := A.size + B.size) (by omega)
  rw [show off + A.size + B.size = off + (A.size + B.size) from by omega, ← this]
  exact ByteArray.extract_append_eq_right rfl rfl
theorem Emb.self (T : ByteArray) : Emb T T 0 := ⟨by rw [Nat.zero_add]; simp, by omega⟩
/-- What may stand between tokens. -/
structure WGap (g : ByteArray) : Prop where
  skip : ∀ T off, Emb T g off → lexL T off = lexL T (off + g.size)
/-- A token's text. -/
structure WTk (k : Int) (w : ByteArray) : Prop where
  pos : 0 < w.size
  one : nxt w 0 = .tok ⟨k, w, 0⟩ w.size
  byte : byteAt w 0 ≠ 35
def gapB (g : ByteArray) : Nat → Nat → Bool
  | 0, i => i == g.size
  | f + 1, i => if i < g.size then (if blankZ (byteAt g i) then gapB g f (i + 1) else byteAt g i == 35 && decide (scan (fun b => b != 10) g i < g.size) && gapB g f (scan (fun b => b != 10) g i)) else i == g.size
theorem gapB_ok {T g : ByteArray} {off : Nat} (h : Emb T g off) : ∀ (f i : Nat), gapB g f i = true → lexL T (off + i) = lexL T (off + g.size)
  | 0, i, e => by
    simp only [gapB, beq_iff_eq] at e
    rw [e]
  | f + 1, i, e => by
    have hle := h.le
    simp only [gapB] at e
    split at e
    · rename_i hi
      have hb := h.byte hi
      split at e
      · rename_i hz
        rw [← gapB_ok h f (i + 1) e, ← Nat.add_assoc]
        exact lexL_skip (by omega) (by omega) (nxt_blank (by rw [hb]; exact hz))
      · rename_i hz
        simp only [Bool.and_eq_true, beq_iff_eq, decide_eq_true_eq] at e
        obtain ⟨⟨e1, e2⟩, e3⟩ := e
        rw [← gapB_ok h f _ e3]
        have hs := h.scanIn (p := fun b => b != 10) (i := i) rfl (by omega) e2
        have hn := nxt_line (s := T) (j := off + i) (by rw [hb, e1]; decide) (by rw [hb, e1])
        rw [hs] at hn
        have := scan_lt (p := fun b => b != 10) hi (by rw [e1]; rfl)
        exact lexL_skip (by omega) (by omega) hn
    · simp only [beq_iff_eq] at e
      rw [e]
theorem WGap.of {g : ByteArray} (h : gapB g g.size 0 = true) : WGap g := ⟨fun T off e => by
  have := gapB_ok e g.size 0 h
  rwa [Nat.add_zero] at this⟩
theorem WGap.nil : WGap ⟨#[]⟩ := ⟨fun T off _ => rfl⟩
theorem WTk.step {k : Int} {w T : ByteArray} {off : Nat} (h : WTk k w) (e : Emb T w off) (b : Beh T (off + w.size)) : lexL T off = comb [⟨k, w, off⟩] (lexL T (off + w.size)) := by
  have hle := e.le
  have hp := h.pos
  have hn := e.nxt b hp (fun h35 => absurd h35 h.byte)
  rw [h.one] at hn
  have := lexL_tok (s := T) (i := off + 0) (by omega) (by omega) hn []
  rw [List.nil_append] at this
  simp only [Nat.add_zero, shiftT] at this
  rw [this]
  cases lexL T off <;> rfl
abbrev Pc := ByteArray × Int × ByteArray
def cat : List Pc → ByteArray
  | [] => ⟨#[]⟩
  | (g, _, w) :: l => g ++ (w ++ cat l)
def catL : List Pc → Nat
  | [] => 0
  | (g, _, w) :: l => g.size + (w.size + catL l)
theorem cat_size : ∀ l, (cat l).size = catL l
  | [] => rfl
  | (g, _, w) :: l => by simp [cat, catL, cat_size l]
def toks : Nat → List Pc → List Tk
  | _, [] => []
  | off, (g, k, w) :: l => ⟨k, w, off + g.size⟩ :: toks (off + g.size + w.size) l
def opensB : List Pc → Prop
  | [] => True
  | (g, _, _) :: _ => 0 < g.size ∧ blankZ (byteAt g 0) = true
def Val : List Pc → Prop
  | [] => True
  | (g, k, w) :: l => WGap g ∧ WTk k w ∧ opensB l ∧ Val l
theorem comb_comb (a b : List Tk) (r : Except (Int × Nat) (List Tk)) : comb a (comb b r) = comb (a ++ b) r := by
  cases r <;> simp [comb]
theorem comb_nil (r : Except (Int × Nat) (List Tk)) : comb [] r = r := by cases r <;> rfl
theorem lex_pieces {T : ByteArray} : ∀ (l : List Pc) (off : Nat), Emb T (cat l) off → Val l → Beh T (off + (cat l).size) → lexL T off = comb (toks off l) (lexL T (off + (cat l).size))
  | [], off, _, _, _ => by
    rw [show (cat []).size = 0 from rfl, Nat.add_zero, toks, comb_nil]
  | (g, k, w) :: l, off, e, v, b => by
    obtain ⟨v1, v2, v3, v4⟩ := v
    have e1 : Emb T g off := Emb.left e
    have e2 : Emb T w (off + g.size) := Emb.left (Emb.right e)
    have e3 : Emb T (cat l) (off + g.size + w.size) := Emb.right (Emb.right e)
    have sz : (cat ((g, k, w) :: l)).size = g.size + (w.size + (cat l).size) := by simp [cat]
    rw [sz] at b ⊢
    have b3 : Beh T (off + g.size + w.size + (cat l).size) := by
      rw [show off + g.size + w.size + (cat l).size = off + (g.size + (w.size + (cat l).size)) from by omega]; exact b
    have b2 : Beh T (off + g.size + w.size) := by
      cases l with
      | nil => exact b3
      | cons p l =>
        obtain ⟨g', k', w'⟩ := p
        obtain ⟨o1, o2⟩ := v3
        have e4 : Emb T g' (off + g.size + w.size) := Emb.left e3
        have := e4.byte o1
        rw [Nat.add_zero] at this
        exact .inr (by rw [this]; exact o2)
    rw [v1.skip T off e1, v2.step e2 b2, lex_pieces l _ e3 v4 b3, comb_comb]
    rw [show off + g.size + w.size + (cat l).size = off + (g.size + (w.size + (cat l).size)) from by omega]
    rfl
/-- A text of tokens, and a gap at its end. -/
theorem lex_all (l : List Pc) (z : ByteArray) (v : Val l) (hz : WGap z) (ho : z.size = 0 ∨ blankZ (byteAt z 0) = true) (hs : (cat l ++ z).size ≤ 8192) :
    lexR (cat l ++ z) = .ok (toks 0 l ++ [⟨0, ⟨#[]⟩, (cat l ++ z).size⟩]) := by
  have hE := Emb.self (cat l ++ z)
  generalize hT : cat l ++ z = T at *
  have sz : T.size = (cat l).size + z.size := by rw [← hT]; simp
  have e1 : Emb T (cat l) 0 := by rw [← hT] at hE ⊢; exact Emb.left hE
  have e2 : Emb T z (0 + (cat l).size) := by rw [← hT] at hE ⊢; exact Emb.right hE
  unfold lexR
  rw [if_neg (by omega)]
  have b : Beh T (0 + (cat l).size) := by
    rcases ho with ho | ho
    · exact .inl (by omega)
    · rcases Nat.eq_zero_or_pos z.size with h0 | h0
      · exact .inl (by omega)
      · have := e2.byte h0
        rw [Nat.add_zero] at this
        exact .inr (by rw [this]; exact ho)
  rw [lex_pieces l 0 e1 v b, hz.skip T _ e2, lexL_end (by omega)]
  rfl
end Go.Proofs.Hk.Lx

set_option linter.unusedSimpArgs false
set_option linter.unusedVariables false
namespace Go.Proofs.Hk.Lx
open Go Go.Proofs

/-! Each token's text is a token by itself. -/
theorem scan_all {p : Int → Bool} {s : ByteArray} {e : Nat} (he : e ≤ s.size) (i : Nat) (hi : i ≤ e) (h : ∀ q, i ≤ q → q < e → p (byteAt s q) = true) (hz : e = s.size ∨ p (byteAt s e) = false) : scan p s i = e := by
  rw [scan_to (e := e) h he hi]
  rcases hz with rfl | hz
  · exact scan_end (by omega)
  · exact scan_no hz
theorem ext_self (w : ByteArray) : w.extract 0 w.size = w := by simp
theorem nxt_wtk {s : ByteArray} {i j : Nat} {t : Tk} (hi : i < s.size) (h : nxt s i = .tok t j) : WTk t.kind t.text := by
  unfold nxt at h
  split at h
  · cases h
  rename_i hbl
  split at h
  · cases h
  rename_i h35
  split at h
  · rename_i hl
    split at h
    · cases h
    · rename_i h16
      cases h
      simp only []
      have e1 : i < scan wordZ s i := scan_lt hi (by simp [wordZ, hl])
      have e2 := scan_le wordZ s i (by omega)
      have hz := size_extract (s := s) (a := i) e2
      have b : ∀ k, k < (s.extract i (scan wordZ s i)).size → byteAt (s.extract i (scan wordZ s i)) (k : Nat) = byteAt s ((i + k : Nat) : Int) := fun k hk => byte_extract (by omega) e2
      have a : ∀ k, k < (s.extract i (scan wordZ s i)).size → wordZ (byteAt (s.extract i (scan wordZ s i)) (k : Nat)) = true := fun k hk => by
        rw [b k hk]; exact lx_scan (p := wordZ) (s := s) (i := i) rfl (i + k) (by omega) (by omega)
      generalize s.extract i (scan wordZ s i) = w at *
      have b0 := b 0 (by omega)
      simp only [Nat.add_zero, Int.natCast_zero] at b0
      have sc : scan wordZ w 0 = w.size := scan_all (Nat.le_refl _) 0 (Nat.zero_le _) (fun q _ hq => a q hq) (.inl rfl)
      rw [← b0] at hbl h35 hl
      refine ⟨by omega, ?_, h35⟩
      unfold nxt
      simp only [Int.natCast_zero]
      rw [if_neg hbl, if_neg h35, if_pos hl, sc, ext_self, if_neg h16]
  rename_i hl
  split at h
  · rename_i hd
    split at h
    · cases h
    · rename_i hn
      cases h
      simp only []
      have e1 : i < scan digitZ s i := scan_lt hi hd
      have e2 := scan_le digitZ s i (by omega)
      have hz := size_extract (s := s) (a := i) e2
      have hn : numberS (s.extract i (scan digitZ s i)) (decide (scan digitZ s i < s.size) && wordZ (byteAt s (scan digitZ s i))) = 0 := Classical.byContradiction hn
      generalize (decide (scan digitZ s i < s.size) && wordZ (byteAt s (scan digitZ s i))) = more at hn
      have b : ∀ k, k < (s.extract i (scan digitZ s i)).size → byteAt (s.extract i (scan digitZ s i)) (k : Nat) = byteAt s ((i + k : Nat) : Int) := fun k hk => byte_extract (by omega) e2
      have a : ∀ k, k < (s.extract i (scan digitZ s i)).size → digitZ (byteAt (s.extract i (scan digitZ s i)) (k : Nat)) = true := fun k hk => by
        rw [b k hk]; exact lx_scan (p := digitZ) (s := s) (i := i) rfl (i + k) (by omega) (by omega)
      generalize s.extract i (scan digitZ s i) = w at *
      have b0 := b 0 (by omega)
      simp only [Nat.add_zero, Int.natCast_zero] at b0
      have sc : scan digitZ w 0 = w.size := scan_all (Nat.le_refl _) 0 (Nat.zero_le _) (fun q _ hq => a q hq) (.inl rfl)
      have hn2 : numberS w false = 0 := by
        unfold numberS at hn ⊢
        split at hn
        · cases hn
        · rename_i h9
          rw [if_neg h9]
          split at hn
          · cases hn
          · rename_i hm
            rw [if_neg]
            intro hc
            simp only [Bool.or_false] at hc
            exact hm (by rw [hc]; rfl)
      rw [← b0] at hbl h35 hl hd
      refine ⟨by omega, ?_, h35⟩
      unfold nxt
      simp only [Int.natCast_zero]
      rw [if_neg hbl, if_neg h35, if_neg hl, if_pos hd, sc, ext_self, decide_eq_false (Nat.lt_irrefl _), Bool.false_and, hn2]
      simp
  rename_i hd
  split at h
  · cases h
  · rename_i hs
    cases h
    simp only []
    have hsz := signS_le (s.extract i s.size) (by simp; omega)
    simp only [ByteArray.size_extract, Nat.min_self] at hsz
    have e2 : i + signS (s.extract i s.size) ≤ s.size := by omega
    have hz := size_extract (s := s) (a := i) e2
    have hp : 0 < signS (s.extract i s.size) := Nat.pos_of_ne_zero hs
    have b0 := byte_extract (s := s) (a := i) (b := i + signS (s.extract i s.size)) (k := 0) (by omega) e2
    simp only [Nat.add_zero, Int.natCast_zero] at b0
    have sg : signS ((s.extract i (i + signS (s.extract i s.size))).extract 0 (s.extract i (i + signS (s.extract i s.size))).size) = (s.extract i (i + signS (s.extract i s.size))).size := by
      have hA := signS_at s i hi
      rw [ext_self]
      by_cases c1 : i + 1 < s.size ∧ twoS (s.extract i (i + 2)) = true
      · rw [if_pos c1] at hA
        rw [hA] at hz e2 ⊢
        have hz2 : (s.extract i (i + 2)).size = 2 := by omega
        unfold signS
        rw [hz2, if_pos ⟨by omega, by rw [show (s.extract i (i + 2)).extract 0 2 = s.extract i (i + 2) from (by have := ext_self (s.extract i (i + 2)); rwa [hz2] at this)]; exact c1.2⟩]
      · rw [if_neg c1] at hA
        split at hA
        · rename_i ho
          rw [hA] at hz b0 ⊢
          have hz2 : (s.extract i (i + 1)).size = 1 := by omega
          unfold signS
          rw [hz2, if_neg (by omega), b0, if_pos ho]
        · omega
    generalize s.extract i (i + signS (s.extract i s.size)) = w at *
    rw [← b0] at hbl h35 hl hd
    refine ⟨by omega, ?_, h35⟩
    unfold nxt
    simp only [Int.natCast_zero]
    rw [if_neg hbl, if_neg h35, if_neg hl, if_neg hd, sg, if_neg (by omega), Nat.zero_add, ext_self]
theorem lexL_wtk (s : ByteArray) (i : Nat) (l : List Tk) (h : lexL s i = .ok l) : ∃ m : List Tk, l = m ++ [⟨0, ⟨#[]⟩, s.size⟩] ∧ (∀ t ∈ m, WTk t.kind t.text) ∧ (∀ (k : Nat) t, m[k]? = some t → i + k ≤ t.pos ∧ t.pos + t.text.size ≤ s.size ∧ s.extract t.pos (t.pos + t.text.size) = t.text ∧ ∀ k' t', k < k' → m[k']? = some t' → t.pos + t.text.size ≤ t'.pos) ∧ i + m.length ≤ max i s.size := by
  unfold lexL at h
  split at h
  · rename_i hi
    split at h
    · rename_i j _
      obtain ⟨m, e, h1, h2, h3⟩ := lexL_wtk s (max (i + 1) j) l h
      refine ⟨m, e, h1, fun k t hk => ?_, by omega⟩
      obtain ⟨g1, g2⟩ := h2 k t hk
      exact ⟨by omega, g2⟩
    · rename_i t j hn
      split at h
      · rename_i l' hl'
        obtain ⟨m, e, h1, h2, h3⟩ := lexL_wtk s (max (i + 1) j) l' hl'
        simp only [Except.ok.injEq] at h
        subst h
        have hw := nxt_wtk hi hn
        obtain ⟨_, n2⟩ := nxt_le hi
        obtain ⟨j1, j2, j3⟩ := n2 t j hn
        have ht : t.text = s.extract i j := by
          unfold nxt at hn
          split at hn
          · cases hn
          split at hn
          · cases hn
          split at hn
          · split at hn <;> cases hn; rfl
          split at hn
          · split at hn <;> cases hn; rfl
          split at hn <;> cases hn; rfl
        have hts : t.text.size = j - i := by rw [ht]; exact size_extract j2
        refine ⟨t :: m, by rw [e]; rfl, fun x hx => ?_, fun k x hk => ?_, by simp only [List.length_cons]; omega⟩
        · rcases List.mem_cons.1 hx with rfl | hx
          · exact hw
          · exact h1 x hx
        · cases k with
          | zero =>
            simp only [List.getElem?_cons_zero, Option.some.injEq] at hk
            subst hk
            refine ⟨by omega, by omega, by rw [j3, hts, ht, show i + (j - i) = j from by omega], fun k' t' hk' ht' => ?_⟩
            cases k' with
            | zero => omega
            | succ k' =>
              have := h2 k' t' (by simpa using ht')
              omega
          | succ k =>
            have hk : m[k]? = some x := by simpa using hk
            obtain ⟨g1, g2, g3, g4⟩ := h2 k x hk
            refine ⟨by omega, g2, g3, fun k' t' hk' ht' => ?_⟩
            cases k' with
            | zero => omega
            | succ k' => exact g4 k' t' (by omega) (by simpa using ht')
      · cases h
    · cases h
  · simp only [Except.ok.injEq] at h
    exact ⟨[], by rw [← h]; rfl, fun _ hx => absurd hx (List.not_mem_nil), fun k t hk => by simp at hk, by simp; omega⟩
termination_by s.size - i
end Go.Proofs.Hk.Lx

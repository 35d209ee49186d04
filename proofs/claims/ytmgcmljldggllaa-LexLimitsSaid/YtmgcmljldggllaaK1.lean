import Derived.Test.YtmgcmljldggllaaJ1
import Derived.Test.YtmgcmljldggllaaHZ
set_option linter.unusedSimpArgs false
set_option linter.unusedVariables false
namespace Go.Proofs.Hk
open Go Go.Proofs

/-! LexLimits: texts by their bytes. -/
def mk (l : List UInt8) : ByteArray := ⟨l.toArray⟩
theorem mk_size (l : List UInt8) : (mk l).size = l.length := by simp [mk, ByteArray.size]
theorem mk_app (l m : List UInt8) : mk l ++ mk m = mk (l ++ m) := by
  apply ByteArray.ext
  rw [ByteArray.data_append]
  simp [mk]
theorem mk_byte (l : List UInt8) (i : Nat) : byteAt (mk l) i = (((l[i]?).getD 0).toNat : Int) := by
  simp [byteAt, mk, List.getD_eq_getElem?_getD]
theorem mk_ext (l : List UInt8) (i j : Nat) : (mk l).extract i j = mk ((l.drop i).take (j - i)) := by
  apply ByteArray.ext
  rw [ByteArray.data_extract]
  apply Array.toList_inj.1
  simp [mk, List.extract_eq_take_drop]
theorem scan_is {p : Int → Bool} {s : ByteArray} {i e : Nat} (hi : i ≤ e) (he : e ≤ s.size) (h : ∀ q, i ≤ q → q < e → p (byteAt s q) = true) (hz : e = s.size ∨ p (byteAt s e) = false) : scan p s i = e := by
  rw [scan_to h he hi]
  rcases hz with rfl | hz
  · exact scan_end (by omega)
  · exact scan_no hz
def nameL (x : UInt8) (k : Nat) : List UInt8 := x :: List.replicate k 122
def numL (y : UInt8) (k : Nat) : List UInt8 := y :: List.replicate k 48

theorem lexR_small {s : ByteArray} (h : s.size ≤ 8192) : lexR s = lexL s 0 := by unfold lexR; rw [if_neg (by omega)]

section
variable {x y : UInt8} (hx : 97 ≤ x.toNat ∧ x.toNat ≤ 122) (hy : 49 ≤ y.toNat ∧ y.toNat ≤ 57)
theorem letter_of {b : Int} (h : 97 ≤ b ∧ b ≤ 122) : blankZ b = false ∧ b ≠ 35 ∧ letterZ b = true := by
  simp only [blankZ, letterZ, Bool.or_eq_false_iff, beq_eq_false_iff_ne, Bool.and_eq_true, decide_eq_true_eq]; omega
theorem digit_of {b : Int} (h : 48 ≤ b ∧ b ≤ 57) : blankZ b = false ∧ b ≠ 35 ∧ letterZ b = false ∧ digitZ b = true := by
  simp only [blankZ, letterZ, digitZ, Bool.or_eq_false_iff, beq_eq_false_iff_ne, Bool.and_eq_true, decide_eq_true_eq, Bool.and_eq_false_iff, decide_eq_false_iff_not]; omega
/-- A word that is read. -/
theorem lex_word {s : ByteArray} {i e : Nat} (h0 : i < e) (he : e ≤ s.size) (hf : 97 ≤ byteAt s i ∧ byteAt s i ≤ 122) (h : ∀ q, i ≤ q → q < e → 97 ≤ byteAt s q ∧ byteAt s q ≤ 122) (hz : e = s.size ∨ wordZ (byteAt s e) = false) : nxt s i = if e - i > 16 then .err 2 else .tok ⟨if keyS (s.extract i e) = true then 3 else 1, s.extract i e, i⟩ e := by
  have hs : scan wordZ s i = e := scan_is (by omega) he (fun q q1 q2 => by simp [wordZ, (letter_of (h q q1 q2)).2.2]) hz
  obtain ⟨a1, a2, a3⟩ := letter_of hf
  have hsz : (s.extract i e).size = e - i := by rw [ByteArray.size_extract, Nat.min_eq_left he]
  split
  · rename_i hl
    exact nxt_longE a1 a2 a3 (by rw [hs, hsz]; exact hl)
  · rename_i hl
    rw [nxt_word a1 a2 a3 (by rw [hs, hsz]; exact hl), hs]
theorem lex_num {s : ByteArray} {i e : Nat} (h0 : i < e) (he : e ≤ s.size) (h : ∀ q, i ≤ q → q < e → 48 ≤ byteAt s q ∧ byteAt s q ≤ 57) (hz : e = s.size ∨ digitZ (byteAt s e) = false) : nxt s i = if numberS (s.extract i e) (decide (e < s.size) && wordZ (byteAt s e)) ≠ 0 then .err (numberS (s.extract i e) (decide (e < s.size) && wordZ (byteAt s e))) else .tok ⟨2, s.extract i e, i⟩ e := by
  have hs : scan digitZ s i = e := scan_is (by omega) he (fun q q1 q2 => (digit_of (h q q1 q2)).2.2.2) hz
  obtain ⟨a1, a2, a3, a4⟩ := digit_of (h i (Nat.le_refl _) h0)
  split
  · rename_i hl
    have := nxt_numE a1 a2 a3 a4 rfl (by rw [hs]; exact hl)
    rw [this, hs]
  · rename_i hl
    have := nxt_num a1 a2 a3 a4 rfl (by rw [hs]; simpa using hl)
    rw [this, hs]
theorem byte_mid (pre mid post : List UInt8) (q : Nat) (hq : q < mid.length) : byteAt (mk (pre ++ mid ++ post)) ((pre.length + q : Nat) : Int) = byteAt (mk mid) q := by
  rw [mk_byte, mk_byte, List.append_assoc, List.getElem?_append_right (by omega), show pre.length + q - pre.length = q from by omega, List.getElem?_append_left hq]
theorem name_b (hx : 97 ≤ x.toNat ∧ x.toNat ≤ 122) {k q : Nat} (h : q ≤ k) : 97 ≤ byteAt (mk (nameL x k)) q ∧ byteAt (mk (nameL x k)) q ≤ 122 := by
  rw [mk_byte]
  cases q with
  | zero => simp only [nameL, List.getElem?_cons_zero, Option.getD_some]; omega
  | succ q =>
    simp only [nameL, List.getElem?_cons_succ]
    rw [List.getElem?_replicate, if_pos (by omega)]
    decide
theorem num_b (hy : 49 ≤ y.toNat ∧ y.toNat ≤ 57) {k q : Nat} (h : q ≤ k) : 48 ≤ byteAt (mk (numL y k)) q ∧ byteAt (mk (numL y k)) q ≤ 57 ∧ (q = 0 → byteAt (mk (numL y k)) q ≠ 48) := by
  rw [mk_byte]
  cases q with
  | zero => simp only [numL, List.getElem?_cons_zero, Option.getD_some]; omega
  | succ q =>
    simp only [numL, List.getElem?_cons_succ]
    rw [List.getElem?_replicate, if_pos (by omega)]
    exact ⟨by decide, by decide, by omega⟩
theorem name_len (k : Nat) : (nameL x k).length = k + 1 := by simp [nameL]
theorem num_len (k : Nat) : (numL y k).length = k + 1 := by simp [numL]
theorem lexL_tokE {s : ByteArray} {i j : Nat} {t : Tk} {e : Int × Nat} (h : i < s.size) (hj : i < j) (hn : nxt s i = .tok t j) (hl : lexL s j = .error e) : lexL s i = .error e := by
  have := lexL_tok h hj hn []
  rw [hl] at this
  cases he : lexL s i with
  | ok l => rw [he] at this; simp [comb] at this
  | error e => rw [he] at this; simpa [comb] using this.symm

theorem limA (hx : 97 ≤ x.toNat ∧ x.toNat ≤ 122) (hy : 49 ≤ y.toNat ∧ y.toNat ≤ 57) : ∃ l, lexR (mk (nameL x 15 ++ [32] ++ numL y 8)) = .ok l ∧ l.length = 3 := by
  have hs : (mk (nameL x 15 ++ [32] ++ numL y 8)).size = 26 := by rw [mk_size]; simp [name_len, num_len]
  rw [lexR_small (by omega)]
  have b1 : ∀ q : Nat, q < 16 → 97 ≤ byteAt (mk (nameL x 15 ++ [32] ++ numL y 8)) q ∧ byteAt (mk (nameL x 15 ++ [32] ++ numL y 8)) q ≤ 122 := fun q hq => by
    have := byte_mid [] (nameL x 15) ([32] ++ numL y 8) q (by rw [name_len]; omega)
    simp only [List.nil_append, List.length_nil, Nat.zero_add, ← List.append_assoc] at this
    rw [this]
    exact name_b hx (by omega)
  have b2 : byteAt (mk (nameL x 15 ++ [32] ++ numL y 8)) ((16 : Nat) : Int) = 32 := by
    have := byte_mid (nameL x 15) [32] (numL y 8) 0 (by decide)
    rw [name_len] at this
    rw [this]; decide
  have b3 : ∀ q : Nat, 17 ≤ q → q < 26 → 48 ≤ byteAt (mk (nameL x 15 ++ [32] ++ numL y 8)) q ∧ byteAt (mk (nameL x 15 ++ [32] ++ numL y 8)) q ≤ 57 ∧ (q = 17 → byteAt (mk (nameL x 15 ++ [32] ++ numL y 8)) q ≠ 48) := fun q h1 h2 => by
    have := byte_mid (nameL x 15 ++ [32]) (numL y 8) [] (q - 17) (by rw [num_len]; omega)
    simp only [List.append_nil, List.length_append, name_len, List.length_cons, List.length_nil] at this
    rw [show 15 + 1 + (0 + 1) + (q - 17) = q from by omega] at this
    rw [this]
    obtain ⟨a, b, c⟩ := num_b hy (k := 8) (q := q - 17) (by omega)
    exact ⟨a, b, fun h => c (by omega)⟩
  generalize mk (nameL x 15 ++ [32] ++ numL y 8) = T at hs b1 b2 b3
  have n1 := lex_word (s := T) (i := 0) (e := 16) (by omega) (by omega) (b1 0 (by omega)) (fun q _ h => b1 q h) (.inr (by rw [b2]; decide))
  rw [if_neg (by omega)] at n1
  have n2 : nxt T 16 = .skip 17 := nxt_blank (by rw [b2]; decide)
  have n3 := lex_num (s := T) (i := 17) (e := 26) (by omega) (by omega) (fun q h1 h2 => ⟨(b3 q h1 h2).1, (b3 q h1 h2).2.1⟩) (.inl hs.symm)
  have hm : numberS (T.extract 17 26) (decide (26 < T.size) && wordZ (byteAt T ((26 : Nat) : Int))) = 0 := by
    rw [hs]
    unfold numberS
    rw [if_neg (by rw [ByteArray.size_extract]; omega), byteAt_sub2 T 17 26 (by omega) (by omega)]
    have := (b3 17 (by omega) (by omega)).2.2 rfl
    rw [show (byteAt T ((17 : Nat) : Int) == 48) = false from beq_eq_false_iff_ne.2 this]
    simp
  rw [hm] at n3
  simp only [ne_eq, not_true, if_false] at n3
  have e3 := lexL_tok0 (by omega) (by omega) n3 (lexL_end (s := T) (i := 26) (by omega))
  rw [← lexL_skip (by omega) (by omega) n2] at e3
  exact ⟨_, lexL_tok0 (by omega) (by omega) n1 e3, rfl⟩
theorem limB (hx : 97 ≤ x.toNat ∧ x.toNat ≤ 122) : lexR (mk (nameL x 16)) = .error (2, 0) := by
  have hs : (mk (nameL x 16)).size = 17 := by rw [mk_size, name_len]
  rw [lexR_small (by omega)]
  have b1 : ∀ q : Nat, q < 17 → 97 ≤ byteAt (mk (nameL x 16)) q ∧ byteAt (mk (nameL x 16)) q ≤ 122 := fun q hq => name_b hx (by omega)
  generalize mk (nameL x 16) = T at hs b1
  have n1 := lex_word (s := T) (i := 0) (e := 17) (by omega) (by omega) (b1 0 (by omega)) (fun q _ h => b1 q h) (.inl hs.symm)
  rw [if_pos (by omega)] at n1
  exact lexL_err (by omega) n1
theorem limC (hy : 49 ≤ y.toNat ∧ y.toNat ≤ 57) : lexR (mk (numL y 9)) = .error (2, 0) := by
  have hs : (mk (numL y 9)).size = 10 := by rw [mk_size, num_len]
  rw [lexR_small (by omega)]
  have b1 : ∀ q : Nat, q < 10 → 48 ≤ byteAt (mk (numL y 9)) q ∧ byteAt (mk (numL y 9)) q ≤ 57 := fun q hq => ⟨(num_b hy (by omega)).1, (num_b hy (by omega)).2.1⟩
  generalize mk (numL y 9) = T at hs b1
  have n1 := lex_num (s := T) (i := 0) (e := 10) (by omega) (by omega) (fun q _ h => b1 q h) (.inl hs.symm)
  have hm : ∀ m, numberS (T.extract 0 10) m = 2 := fun m => by
    unfold numberS
    rw [if_pos (by rw [ByteArray.size_extract]; omega)]
  rw [hm] at n1
  exact lexL_err (by omega) (by rw [n1]; rfl)
theorem semi {T : ByteArray} (h : 3 ≤ T.size) (b0 : byteAt T ((0 : Nat) : Int) = 59) (b1 : byteAt T ((1 : Nat) : Int) = 32) {e : Int} (hn : nxt T 2 = .err e) : lexL T 0 = .error (e, 2) := by
  have sg : signS (T.extract 0 T.size) = 1 := by
    rw [signS_at T 0 (by omega), b0]
    have h2 := two_no (T := T) (S := T.extract 0 1) (off := 0) ⟨by rw [show (T.extract 0 1).size = 1 from by rw [ByteArray.size_extract]; omega], by rw [ByteArray.size_extract]; omega⟩ (by
      have : (T.extract 0 1).size = 1 := by rw [ByteArray.size_extract]; omega
      rw [this]; exact .inr (.inr b1)) (i := 0) (by rw [ByteArray.size_extract]; omega)
    rw [if_neg (by simpa using h2), if_pos (by decide)]
  have n0 := nxt_sign (s := T) (j := 0) (by rw [b0]; decide) (by rw [b0]; decide) (by rw [b0]; decide) (by rw [b0]; decide) (by rw [sg]; decide)
  rw [sg] at n0
  refine lexL_tokE (by omega) (by omega) n0 ?_
  rw [lexL_skip (j := 2) (by omega) (by omega) (nxt_blank (by rw [b1]; decide))]
  exact lexL_err (by omega) hn
theorem limD (hy : 49 ≤ y.toNat ∧ y.toNat ≤ 57) : lexR (mk ([59, 32, 48] ++ numL y 8)) = .error (2, 2) := by
  have hs : (mk ([59, 32, 48] ++ numL y 8)).size = 12 := by rw [mk_size]; simp [num_len]
  rw [lexR_small (by omega)]
  have b0 : byteAt (mk ([59, 32, 48] ++ numL y 8)) ((0 : Nat) : Int) = 59 := by rw [mk_byte]; rfl
  have b1 : byteAt (mk ([59, 32, 48] ++ numL y 8)) ((1 : Nat) : Int) = 32 := by rw [mk_byte]; rfl
  have b2 : ∀ q : Nat, 2 ≤ q → q < 12 → 48 ≤ byteAt (mk ([59, 32, 48] ++ numL y 8)) q ∧ byteAt (mk ([59, 32, 48] ++ numL y 8)) q ≤ 57 := fun q h1 h2 => by
    rcases Nat.eq_or_lt_of_le h1 with rfl | h1
    · rw [mk_byte]; exact (by decide : 48 ≤ (((48 : UInt8)).toNat : Int) ∧ (((48 : UInt8)).toNat : Int) ≤ 57)
    · have := byte_mid [59, 32, 48] (numL y 8) [] (q - 3) (by rw [num_len]; omega)
      simp only [List.append_nil] at this
      rw [show ([59, 32, 48] : List UInt8).length + (q - 3) = q from by simp; omega] at this
      rw [this]
      exact ⟨(num_b hy (by omega)).1, (num_b hy (by omega)).2.1⟩
  generalize mk ([59, 32, 48] ++ numL y 8) = T at hs b0 b1 b2
  have n1 := lex_num (s := T) (i := 2) (e := 12) (by omega) (by omega) (fun q h1 h2 => b2 q h1 h2) (.inl hs.symm)
  have hm : ∀ m, numberS (T.extract 2 12) m = 2 := fun m => by
    unfold numberS
    rw [if_pos (by rw [ByteArray.size_extract]; omega)]
  rw [hm] at n1
  exact semi (by omega) b0 b1 (by rw [n1]; rfl)
theorem limE (hx : 97 ≤ x.toNat ∧ x.toNat ≤ 122) : lexR (mk ([59, 32, 55] ++ nameL x 15)) = .error (3, 2) := by
  have hs : (mk ([59, 32, 55] ++ nameL x 15)).size = 19 := by rw [mk_size]; simp [name_len]
  rw [lexR_small (by omega)]
  have b0 : byteAt (mk ([59, 32, 55] ++ nameL x 15)) ((0 : Nat) : Int) = 59 := by rw [mk_byte]; rfl
  have b1 : byteAt (mk ([59, 32, 55] ++ nameL x 15)) ((1 : Nat) : Int) = 32 := by rw [mk_byte]; rfl
  have b2 : byteAt (mk ([59, 32, 55] ++ nameL x 15)) ((2 : Nat) : Int) = 55 := by rw [mk_byte]; rfl
  have b3 : 97 ≤ byteAt (mk ([59, 32, 55] ++ nameL x 15)) ((3 : Nat) : Int) ∧ byteAt (mk ([59, 32, 55] ++ nameL x 15)) ((3 : Nat) : Int) ≤ 122 := by
    have := byte_mid [59, 32, 55] (nameL x 15) [] 0 (by rw [name_len]; omega)
    simp only [List.append_nil] at this
    rw [show ([59, 32, 55] : List UInt8).length + 0 = 3 from rfl] at this
    rw [this]
    exact name_b hx (by omega)
  generalize mk ([59, 32, 55] ++ nameL x 15) = T at hs b0 b1 b2 b3
  obtain ⟨l1, l2, l3⟩ := letter_of b3
  have n1 := lex_num (s := T) (i := 2) (e := 3) (by omega) (by omega) (fun q h1 h2 => by
    have : q = 2 := by omega
    subst this; rw [b2]; omega) (.inr (letter_digit l3))
  have hm : numberS (T.extract 2 3) (decide (3 < T.size) && wordZ (byteAt T ((3 : Nat) : Int))) = 3 := by
    have : wordZ (byteAt T ((3 : Nat) : Int)) = true := by unfold wordZ; rw [l3]; rfl
    rw [this, hs]
    unfold numberS
    rw [if_neg (by rw [ByteArray.size_extract]; omega), if_pos (by simp)]
  rw [hm] at n1
  exact semi (by omega) b0 b1 (by rw [n1]; rfl)
end
end Go.Proofs.Hk

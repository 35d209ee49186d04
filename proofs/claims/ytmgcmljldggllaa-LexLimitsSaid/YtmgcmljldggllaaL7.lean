import Derived.Test.YtmgcmljldggllaaL5
set_option linter.unusedSimpArgs false
set_option linter.unusedVariables false
namespace Go.Proofs.Hk
open Go Go.Proofs

/-! LexTexts: what stands between tokens. -/
def flag (r : Bool) (c : Int) : Bool := (r && c != 10) || c == 35
def gapTo (s : ByteArray) : Bool → Nat → Nat → Option Bool
  | r, _, 0 => some r
  | r, k, n + 1 => if (!flag r (byteAt s k) && !blankZ (byteAt s k)) = true then none else gapTo s (flag r (byteAt s k)) (k + 1) n
theorem gapTo_add (s : ByteArray) : ∀ (m n : Nat) (r : Bool) (k : Nat), gapTo s r k (m + n) = (gapTo s r k m).bind fun r' => gapTo s r' (k + m) n
  | 0, n, r, k => by simp [gapTo]
  | m + 1, n, r, k => by
    rw [show m + 1 + n = (m + n) + 1 from by omega]
    simp only [gapTo]
    split
    · rfl
    · rw [gapTo_add s m n _ (k + 1), show k + 1 + m = k + (m + 1) from by omega]
theorem gapTo_line (s : ByteArray) : ∀ (n k : Nat), (∀ q, k ≤ q → q < k + n → byteAt s q ≠ 10) → gapTo s true k n = some true
  | 0, _, _ => rfl
  | n + 1, k, h => by
    have h0 : flag true (byteAt s k) = true := by
      have := h k (Nat.le_refl _) (by omega)
      simp [flag, this]
    simp only [gapTo, h0, Bool.not_true, Bool.false_and, Bool.false_eq_true, if_false]
    exact gapTo_line s n (k + 1) fun q h1 h2 => h q (by omega) (by omega)
theorem scan_in {p : Int → Bool} {s : ByteArray} : ∀ {n i : Nat}, s.size - i = n → ∀ q, i ≤ q → q < scan p s i → p (byteAt s q) = true
  | 0, i, hn, q, h1, h2 => by
    rw [scan_end (by omega)] at h2; omega
  | n + 1, i, hn, q, h1, h2 => by
    cases hp : p (byteAt s i) with
    | false => rw [scan_no hp] at h2; omega
    | true =>
      rcases Nat.eq_or_lt_of_le h1 with rfl | h1
      · exact hp
      · rw [← scan_yes (by omega) hp] at h2
        exact scan_in (n := n) (by omega) q (by omega) h2
theorem scan_at {p : Int → Bool} {s : ByteArray} : ∀ {n i : Nat}, s.size - i = n → scan p s i < s.size → p (byteAt s (scan p s i)) = false
  | 0, i, hn, h => by rw [scan_end (by omega)] at h; omega
  | n + 1, i, hn, h => by
    cases hp : p (byteAt s i) with
    | false => rw [scan_no hp]; exact hp
    | true =>
      rw [← scan_yes (by omega) hp] at h ⊢
      exact scan_at (n := n) (by omega) h

/-- Tokens, from a place on, as the law wants them. -/
def Toks (s : ByteArray) : Nat → List Tk → Prop
  | _, [] => False
  | nx, [t] => nx ≤ t.pos ∧ t.pos = s.size ∧ t.text = ⟨#[]⟩ ∧ ∃ r, gapTo s false nx (t.pos - nx) = some r
  | nx, t :: t' :: l => nx ≤ t.pos ∧ t.pos + t.text.size ≤ s.size ∧ s.extract t.pos (t.pos + t.text.size) = t.text ∧ 0 < t.text.size ∧ (∃ r, gapTo s false nx (t.pos - nx) = some r) ∧ Toks s (t.pos + t.text.size) (t' :: l)
theorem lexL_tokI {s : ByteArray} {i j : Nat} {t : Tk} {l : List Tk} (h : i < s.size) (hj : i < j) (hn : nxt s i = .tok t j) (hl : lexL s i = .ok l) : ∃ l', lexL s j = .ok l' ∧ l = t :: l' := by
  have := lexL_tok h hj hn []
  rw [hl] at this
  cases he : lexL s j with
  | ok l' => rw [he] at this; exact ⟨l', rfl, by simpa [comb] using this.symm⟩
  | error e => rw [he] at this; simp [comb] at this
theorem lexL_ne {s : ByteArray} {i : Nat} {l : List Tk} (h : lexL s i = .ok l) : l ≠ [] := by
  intro e
  subst e
  unfold lexL at h
  split at h
  · split at h
    · rename_i j _
      exact lexL_ne h rfl
    · split at h <;> cases h
    · cases h
  · cases h
termination_by s.size - i
decreasing_by omega
theorem Toks_lex (s : ByteArray) : ∀ (n i : Nat), s.size - i = n → i ≤ s.size → ∀ (nx : Nat) (r : Bool) (l : List Tk), nx ≤ i → gapTo s false nx (i - nx) = some r → (r = true → i < s.size → byteAt s i = 10) → lexL s i = .ok l → Toks s nx l := by
  intro n
  induction n using Nat.strongRecOn with
  | _ n ih =>
    intro i hn hi nx r l hx hg hr hl
    by_cases h : i < s.size
    · have tok : ∀ (k : Int) (j : Nat), i < j → j ≤ s.size → nxt s i = .tok ⟨k, s.extract i j, i⟩ j → Toks s nx l := fun k j h1 h2 hn' => by
        obtain ⟨l', e1, rfl⟩ := lexL_tokI h h1 hn' hl
        have hz : (s.extract i j).size = j - i := by rw [ByteArray.size_extract, Nat.min_eq_left h2]
        have ht := ih (s.size - j) (by omega) j rfl h2 j false l' (Nat.le_refl _) (by rw [Nat.sub_self]; rfl) (fun e => by cases e) e1
        cases l' with
        | nil => exact absurd rfl (lexL_ne e1)
        | cons t' l'' =>
          have e2 : i + (s.extract i j).size = j := by omega
          refine ⟨hx, by simp only []; omega, by simp only []; rw [e2], by simp only []; omega, ⟨r, hg⟩, ?_⟩
          simp only []
          rw [e2]
          exact ht
      have skip : ∀ (j : Nat) (r' : Bool), i < j → j ≤ s.size → gapTo s r i (j - i) = some r' → (r' = true → j < s.size → byteAt s j = 10) → nxt s i = .skip j → Toks s nx l := fun j r' h1 h2 hg' hr' hn' => by
        rw [lexL_skip h h1 hn'] at hl
        refine ih (s.size - j) (by omega) j rfl h2 nx r' l (by omega) ?_ hr' hl
        rw [show j - nx = (i - nx) + (j - i) from by omega, gapTo_add, hg]
        simp only [Option.bind_some]
        rw [show nx + (i - nx) = i from by omega, hg']
      have err : ∀ e : Int, nxt s i = .err e → Toks s nx l := fun e hn' => by
        rw [lexL_err h hn'] at hl; cases hl
      cases hb : blankZ (byteAt s i) with
      | true =>
        refine skip (i + 1) false (by omega) (by omega) ?_ (fun e => by cases e) (nxt_blank hb)
        rw [show i + 1 - i = 1 from by omega]
        have hf : flag r (byteAt s i) = false := by
          cases r with
          | true => rw [hr rfl h]; rfl
          | false =>
            have : byteAt s i ≠ 35 := fun e => by rw [e] at hb; exact absurd hb (by decide)
            simp [flag, this]
        simp [gapTo, hf, hb]
      | false =>
        have hr0 : r = false := by
          cases r with
          | false => rfl
          | true => rw [hr rfl h] at hb; exact absurd hb (by decide)
        subst hr0
        by_cases h35 : byteAt s i = 35
        · have g1 := scan_lt (p := fun b => b != 10) h (by simp only [h35]; decide)
          have g2 := scan_le (fun b => b != 10) s i hi
          refine skip _ true g1 g2 ?_ (fun _ hj => by simpa using scan_at (p := fun b => b != 10) rfl hj) (nxt_line hb h35)
          rw [show scan (fun b => b != 10) s i - i = (scan (fun b => b != 10) s i - i - 1) + 1 from by omega]
          have hf : flag false (byteAt s i) = true := by rw [h35]; rfl
          simp only [gapTo, hf, Bool.not_true, Bool.false_and, Bool.false_eq_true, if_false]
          exact gapTo_line s _ (i + 1) fun q q1 q2 => by simpa using scan_in (p := fun b => b != 10) rfl q (by omega) (by omega : q < scan (fun b => b != 10) s i)
        · cases hl' : letterZ (byteAt s i) with
          | true =>
            by_cases hz : (s.extract i (scan wordZ s i)).size > 16
            · exact err 2 (nxt_longE hb h35 hl' hz)
            · exact tok _ _ (scan_lt h (by simp [wordZ, hl'])) (scan_le wordZ s i hi) (nxt_word hb h35 hl' hz)
          | false =>
            cases hd : digitZ (byteAt s i) with
            | true =>
              by_cases hz : numberS (s.extract i (scan digitZ s i)) (decide (scan digitZ s i < s.size) && wordZ (byteAt s (scan digitZ s i))) = 0
              · exact tok _ _ (scan_lt h hd) (scan_le digitZ s i hi) (nxt_num hb h35 hl' hd rfl hz)
              · exact err _ (nxt_numE hb h35 hl' hd rfl hz)
            | false =>
              by_cases hz : signS (s.extract i s.size) = 0
              · exact err 3 (nxt_signE hb h35 hl' hd hz)
              · have g1 := signS_le (s.extract i s.size) (by simp; omega)
                simp only [ByteArray.size_extract, Nat.min_self] at g1
                exact tok _ _ (by omega) (by omega) (nxt_sign hb h35 hl' hd hz)
    · rw [lexL_end h] at hl
      simp only [Except.ok.injEq] at hl
      subst hl
      have : i = s.size := by omega
      subst this
      exact ⟨hx, rfl, rfl, r, hg⟩
end Go.Proofs.Hk

import Derived.Test.YtcihapdaapkdjaaDoorQ19a
import Derived.Test.YtcihapdaapkdjaaDoorP7
import Derived.Test.YtcihapdaapkdjaaDoorP10
set_option linter.unusedSimpArgs false
set_option linter.unusedVariables false
namespace Go.Proofs.Hk
open Go Go.Proofs Lx

/-! Blanks, line ends and remarks between tokens. -/
def gapOf : Nat → ByteArray
  | 0 => ⟨#[32]⟩
  | 1 => ⟨#[10]⟩
  | 2 => ⟨#[32, 35, 32, 114, 101, 109, 97, 114, 107, 32, 59, 32, 120, 32, 61, 32, 10]⟩
  | _ => ⟨#[9, 13, 10]⟩
theorem gapOf_ok : ∀ r, WGap (gapOf r) ∧ 0 < (gapOf r).size ∧ blankZ (byteAt (gapOf r) 0) = true
  | 0 => ⟨WGap.of (by decide +kernel), by decide, by decide⟩
  | 1 => ⟨WGap.of (by decide +kernel), by decide, by decide⟩
  | 2 => ⟨WGap.of (by decide +kernel), by decide, by decide⟩
  | n + 3 => ⟨WGap.of (by show gapB ⟨#[9, 13, 10]⟩ 3 0 = true; decide +kernel), by show 0 < (⟨#[9, 13, 10]⟩ : ByteArray).size; decide, by show blankZ (byteAt ⟨#[9, 13, 10]⟩ 0) = true; decide⟩
/-- The text of so many tokens, with gaps. -/
def blankT (l : List Tk) (w : Nat) : Nat → ByteArray
  | 0 => ⟨#[]⟩
  | i + 1 => blankT l w i ++ gapOf ((i + w) % 4) ++ (tk l i).text
def pcs (w : Nat) : Nat → List Tk → List Pc
  | _, [] => []
  | i, t :: l => (gapOf ((i + w) % 4), t.kind, t.text) :: pcs w (i + 1) l
theorem pcs_app (w : Nat) : ∀ (m : List Tk) (i : Nat) (t : Tk), pcs w i (m ++ [t]) = pcs w i m ++ [(gapOf ((i + m.length + w) % 4), t.kind, t.text)]
  | [], i, t => by simp [pcs]
  | x :: m, i, t => by
    simp only [List.cons_append, pcs, pcs_app w m (i + 1) t, List.length_cons]
    rw [show i + 1 + m.length = i + (m.length + 1) from by omega]
theorem cat_app : ∀ (l : List Pc) (g : ByteArray) (k : Int) (w : ByteArray), cat (l ++ [(g, k, w)]) = cat l ++ g ++ w
  | [], g, k, w => by
    simp only [List.nil_append, cat]
    rw [show (⟨#[]⟩ : ByteArray) = ByteArray.empty from rfl, ByteArray.append_empty, ByteArray.empty_append]
  | (g', k', w') :: l, g, k, w => by
    simp only [List.cons_append, cat, cat_app l g k w, ByteArray.append_assoc]
theorem tk_get {l : List Tk} {i : Nat} (h : i < l.length) : tk l i = l[i] := by simp [tk, List.getD_eq_getElem?_getD, h]
theorem blankT_cat (l : List Tk) (w : Nat) : ∀ i, i ≤ l.length → blankT l w i = cat (pcs w 0 (l.take i))
  | 0, _ => rfl
  | i + 1, h => by
    rw [List.take_succ_eq_append_getElem (by omega), pcs_app, cat_app, blankT, blankT_cat l w i (by omega), tk_get (by omega)]
    simp only [List.length_take, Nat.zero_add]
    rw [Nat.min_eq_left (by omega)]
theorem pcs_val (w : Nat) : ∀ (m : List Tk) (i : Nat), (∀ t ∈ m, WTk t.kind t.text) → Val (pcs w i m)
  | [], _, _ => trivial
  | t :: m, i, h => by
    refine ⟨(gapOf_ok _).1, h t List.mem_cons_self, ?_, pcs_val w m (i + 1) fun x hx => h x (List.mem_cons_of_mem _ hx)⟩
    cases m with
    | nil => trivial
    | cons x m => exact (gapOf_ok _).2
theorem toks_like (w : Nat) : ∀ (m : List Tk) (i off : Nat), (toks off (pcs w i m)).length = m.length ∧ ∀ (k : Nat) (t : Tk), m[k]? = some t → ∃ p, (toks off (pcs w i m))[k]? = some ⟨t.kind, t.text, p⟩
  | [], i, off => ⟨rfl, fun k t h => by simp at h⟩
  | x :: m, i, off => by
    obtain ⟨h1, h2⟩ := toks_like w m (i + 1) (off + (gapOf ((i + w) % 4)).size + x.text.size)
    refine ⟨by simp only [pcs, toks, List.length_cons, h1], fun k t h => ?_⟩
    cases k with
    | zero =>
      simp only [List.getElem?_cons_zero, Option.some.injEq] at h
      subst h
      exact ⟨_, rfl⟩
    | succ k =>
      simp only [List.getElem?_cons_succ] at h
      obtain ⟨p, e⟩ := h2 k t h
      exact ⟨p, by simp only [pcs, toks, List.getElem?_cons_succ]; exact e⟩
def sumT : List Tk → Nat
  | [] => 0
  | t :: l => t.text.size + sumT l
theorem lexL_sum (s : ByteArray) (i : Nat) (l : List Tk) (h : lexL s i = .ok l) : sumT l ≤ s.size - i := by
  unfold lexL at h
  split at h
  · rename_i hi
    split at h
    · rename_i j _
      have := lexL_sum s (max (i + 1) j) l h
      omega
    · rename_i t j hn
      split at h
      · rename_i l' hl'
        have := lexL_sum s (max (i + 1) j) l' hl'
        simp only [Except.ok.injEq] at h
        subst h
        have : t.text.size ≤ j - i ∧ j ≤ s.size := by
          obtain ⟨_, n2⟩ := nxt_le hi
          obtain ⟨j1, j2, j3⟩ := n2 t j hn
          refine ⟨?_, j2⟩
          unfold nxt at hn
          split at hn
          · cases hn
          split at hn
          · cases hn
          split at hn
          · split at hn <;> cases hn; simp only [ByteArray.size_extract]; omega
          split at hn
          · split at hn <;> cases hn; simp only [ByteArray.size_extract]; omega
          split at hn <;> cases hn; simp only [ByteArray.size_extract]; omega
        simp only [sumT]; omega
      · cases h
    · cases h
  · simp only [Except.ok.injEq] at h
    subst h; exact Nat.zero_le _
termination_by s.size - i
def pot : Nat → Int
  | 0 => 0
  | 1 => 5
  | 2 => 10
  | _ => -1
theorem gap_pot (n : Nat) : ((gapOf (n % 4)).size : Int) ≤ 6 + pot (n % 4) - pot ((n + 1) % 4) := by
  have : n % 4 = 0 ∨ n % 4 = 1 ∨ n % 4 = 2 ∨ n % 4 = 3 := by omega
  rcases this with h | h | h | h
  · rw [h, show (n + 1) % 4 = 1 from by omega]; decide
  · rw [h, show (n + 1) % 4 = 2 from by omega]; decide
  · rw [h, show (n + 1) % 4 = 3 from by omega]; decide
  · rw [h, show (n + 1) % 4 = 0 from by omega]; decide
theorem pcs_size (w : Nat) : ∀ (m : List Tk) (i : Nat), ((cat (pcs w i m)).size : Int) ≤ sumT m + 6 * m.length + pot ((i + w) % 4) - pot ((i + m.length + w) % 4)
  | [], i => by
    simp only [pcs, cat, sumT, List.length_nil]
    rw [show (⟨#[]⟩ : ByteArray).size = 0 from rfl]
    simp
  | t :: m, i => by
    have h := pcs_size w m (i + 1)
    have g := gap_pot (i + w)
    simp only [pcs, cat, sumT, List.length_cons]
    rw [show i + 1 + m.length + w = i + (m.length + 1) + w from by omega, show i + 1 + w = i + w + 1 from by omega] at h
    simp only [ByteArray.size_append]
    omega
theorem pot_le (n : Nat) : -1 ≤ pot n ∧ pot n ≤ 10 := by
  match n with
  | 0 => decide
  | 1 => decide
  | 2 => decide
  | n + 3 => exact ⟨by show -1 ≤ (-1 : Int); decide, by show (-1 : Int) ≤ 10; decide⟩
theorem lexR_ok0 {s : ByteArray} {l : List Tk} (h : lexR s = .ok l) : lexL s 0 = .ok l := by
  unfold lexR at h
  split at h
  · cases h
  · exact h
/-- The tokens of the text with gaps. -/
theorem blank_lex {s : ByteArray} {l : List Tk} (h : lexR s = .ok l) (hs : s.size ≤ 600) (w : Nat) : ∃ l', lexR (blankT l w l.length) = .ok l' ∧ l'.length = l.length ∧ (∀ J, Like l l' J) ∧ (blankT l w l.length).size ≤ 8192 := by
  have h0 := lexR_ok0 h
  obtain ⟨m, e, h1, h2, h3⟩ := lexL_wtk s 0 l h0
  have hsum := lexL_sum s 0 l h0
  have hm : m.length ≤ 600 := by omega
  have sm : sumT l = sumT m := by
    rw [e]
    clear e h1 h2 h3 hm
    induction m with
    | nil => rfl
    | cons x m ih => simp only [List.cons_append, sumT, ih]
  have ep : blankT l w l.length = cat (pcs w 0 m) ++ gapOf ((m.length + w) % 4) := by
    rw [blankT_cat l w l.length (Nat.le_refl _), List.take_length, e, pcs_app, cat_app]
    simp only [Nat.zero_add]
    rw [show (⟨#[]⟩ : ByteArray) = ByteArray.empty from rfl, ByteArray.append_empty]
  have sz := pcs_size w m 0
  have sz2 := gap_pot (m.length + w)
  have q1 := pot_le ((0 + w) % 4)
  have q2 := pot_le ((0 + m.length + w) % 4)
  have q3 := pot_le ((m.length + w) % 4)
  have q4 := pot_le ((m.length + w + 1) % 4)
  have hz : (blankT l w l.length).size ≤ 8192 := by
    rw [ep, ByteArray.size_append]
    omega
  have L := lex_all (pcs w 0 m) (gapOf ((m.length + w) % 4)) (pcs_val w m 0 h1) (gapOf_ok _).1 (.inr (gapOf_ok _).2.2) (by rw [← ep]; exact hz)
  rw [← ep] at L
  obtain ⟨t1, t2⟩ := toks_like w m 0 0
  refine ⟨_, L, by rw [e]; simp only [List.length_append, List.length_singleton, t1], fun J => ?_, hz⟩
  have key : ∀ i, (tk (toks 0 (pcs w 0 m) ++ [⟨0, ⟨#[]⟩, (blankT l w l.length).size⟩]) i).kind = (tk l i).kind ∧ (tk (toks 0 (pcs w 0 m) ++ [⟨0, ⟨#[]⟩, (blankT l w l.length).size⟩]) i).text = (tk l i).text := fun i => by
    rw [e]
    rcases Nat.lt_trichotomy i m.length with hi | hi | hi
    · obtain ⟨p, hp⟩ := t2 i m[i] (by simp [hi])
      simp only [tk, List.getD_eq_getElem?_getD]
      rw [List.getElem?_append_left (by omega), List.getElem?_append_left hi, hp]
      simp [hi]
    · subst hi
      simp only [tk, List.getD_eq_getElem?_getD]
      rw [List.getElem?_append_right (by omega), List.getElem?_append_right (by omega)]
      simp [t1]
    · simp only [tk, List.getD_eq_getElem?_getD]
      rw [List.getElem?_eq_none (by simp only [List.length_append, List.length_singleton, t1]; omega), List.getElem?_eq_none (by simp only [List.length_append, List.length_singleton]; omega)]
      simp
  exact ⟨fun i _ => (key i).1, fun i _ => (key i).2⟩
theorem blank_prog {s : ByteArray} {l : List Tk} (h : lexR s = .ok l) (hs : s.size ≤ 600) (w : Nat) : (progR (blankT l w l.length)).1 = (progR s).1 ∧ (progR (blankT l w l.length)).2.1 = (progR s).2.1 := by
  obtain ⟨l', h1, h2, h3, _⟩ := blank_lex h hs w
  have wf := (lexR_wf h).toWfT
  unfold progR
  rw [h, h1]
  simp only []
  rw [h2]
  cases hp : pProg l (16 * l.length + 4) [] 0 with
  | none => exact absurd hp (pProg_some wf _ _ _ (lexR_pos h) (by omega))
  | some res =>
    have := pProg_to wf (h3 (idx res)) _ _ [] 0 (Nat.le_refl (16 * l.length + 4)) (lexR_pos h) (Nat.zero_le _) res hp (Nat.le_refl _)
    rw [this]
    cases res with
    | ok x => exact ⟨rfl, rfl⟩
    | error x => exact ⟨rfl, rfl⟩
/-- What Prog tells is short. -/
theorem progR_sm (s : ByteArray) : (progR s).1.length ≤ 8193 ∧ ∀ p ∈ (progR s).1, smP p := by
  unfold progR
  split
  · exact ⟨by simp, fun _ h => absurd h (List.not_mem_nil)⟩
  · rename_i l h
    have wf := (lexR_wf h).toWfT
    split
    · rename_i ps j hp
      have := pProg_sm wf _ _ _ _ _ (lexR_pos h) hp (fun _ h => absurd h (List.not_mem_nil))
      have wl := wf.len
      simp only [List.length_nil] at this
      exact ⟨by show ps.length ≤ _; omega, this.1⟩
    · exact ⟨by simp, fun _ h => absurd h (List.not_mem_nil)⟩
    · exact ⟨by simp, fun _ h => absurd h (List.not_mem_nil)⟩
end Go.Proofs.Hk

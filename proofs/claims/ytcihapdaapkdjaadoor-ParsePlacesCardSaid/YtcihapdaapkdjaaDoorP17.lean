import Derived.Test.YtcihapdaapkdjaaDoorP12
set_option linter.unusedSimpArgs false
set_option linter.unusedVariables false
namespace Go.Proofs.Hk
open Go Go.Proofs Lx

/-! The beginning of a text, and something else behind it. -/
structure Agree (s T : ByteArray) (e : Nat) : Prop where
  ls : e ≤ s.size
  lT : e ≤ T.size
  eq : T.extract 0 e = s.extract 0 e
section
variable {s T : ByteArray} {e : Nat} (ag : Agree s T e)
include ag
theorem Agree.byte {i : Nat} (h : i < e) : byteAt T i = byteAt s i := by
  have a := byte_extract (s := T) (a := 0) (b := e) (k := i) (by omega) ag.lT
  have b := byte_extract (s := s) (a := 0) (b := e) (k := i) (by omega) ag.ls
  rw [Nat.zero_add] at a b
  rw [← a, ← b, ag.eq]
theorem Agree.ext {i j : Nat} (h : j ≤ e) : T.extract i j = s.extract i j := by
  have a : ∀ (x : ByteArray), e ≤ x.size → x.extract i j = (x.extract 0 e).extract i j := fun x hx => by
    rw [ByteArray.extract_extract, Nat.zero_add, Nat.min_eq_left (by omega), Nat.zero_add]
  rw [a T ag.lT, a s ag.ls, ag.eq]
theorem Agree.scan {p : Int → Bool} : ∀ (n i : Nat), e - i = n → i ≤ e → Hk.scan p s i < e → Hk.scan p T i = Hk.scan p s i
  | 0, i, hn, hi, h => by
    have := scan_ge p s i
    omega
  | n + 1, i, hn, hi, h => by
    have hs := ag.ls
    have hT := ag.lT
    cases hq : p (byteAt s i) with
    | true =>
      rw [← scan_yes (i := i) (by omega) hq] at h ⊢
      rw [← scan_yes (i := i) (by omega) (by rw [ag.byte (by omega)]; exact hq)]
      exact Agree.scan n (i + 1) (by omega) (by omega) h
    | false => rw [scan_no hq, scan_no (by rw [ag.byte (by omega)]; exact hq)]
theorem Agree.nxt {i : Nat} (hi : i < e) : (∀ j, Hk.nxt s i = .skip j → j < e → Hk.nxt T i = .skip j) ∧ (∀ t j, Hk.nxt s i = .tok t j → j < e → Hk.nxt T i = .tok t j) := by
  have hs := ag.ls
  have hT := ag.lT
  have b := ag.byte hi
  have sw := ag.scan (p := wordZ) _ i rfl (by omega)
  have sd := ag.scan (p := digitZ) _ i rfl (by omega)
  have sr := ag.scan (p := fun b => b != 10) _ i rfl (by omega)
  have sg : signS (s.extract i s.size) ≠ 0 → i + signS (s.extract i s.size) < e → signS (T.extract i T.size) = signS (s.extract i s.size) := fun h0 h => by
    have e2 : i + 2 ≤ e → T.extract i (i + 2) = s.extract i (i + 2) := fun h => ag.ext h
    rw [signS_at s i (by omega)] at h h0 ⊢
    rw [signS_at T i (by omega), b]
    split at h
    · rename_i c
      rw [if_pos ⟨by omega, by rw [e2 (by omega)]; exact c.2⟩, if_pos c]
    · rename_i c
      split at h
      · rename_i c1
        rw [if_neg (fun hc => c ⟨by omega, by rw [← e2 (by omega)]; exact hc.2⟩), if_neg c]
      · rename_i c1
        rw [if_neg c, if_neg c1] at h0
        exact absurd rfl h0
  constructor
  · intro j hn hj
    unfold Hk.nxt at hn ⊢
    rw [b]
    split at hn
    · rename_i c; rw [if_pos c]; cases hn; rfl
    rename_i c
    rw [if_neg c]
    split at hn
    · rename_i c2
      cases hn
      rw [if_pos c2, sr hj]
    rename_i c2
    rw [if_neg c2]
    split at hn
    · split at hn <;> cases hn
    split at hn
    · split at hn <;> cases hn
    split at hn <;> cases hn
  · intro t j hn hj
    unfold Hk.nxt at hn ⊢
    rw [b]
    split at hn
    · cases hn
    rename_i c
    rw [if_neg c]
    split at hn
    · cases hn
    rename_i c2
    rw [if_neg c2]
    split at hn
    · rename_i c3
      split at hn
      · cases hn
      · rename_i c4
        cases hn
        rw [if_pos c3, sw hj, ag.ext (by omega), if_neg c4]
    rename_i c3
    rw [if_neg c3]
    split at hn
    · rename_i c4
      split at hn
      · cases hn
      · rename_i c5
        cases hn
        have d1 : decide (Hk.scan digitZ s i < T.size) = true := decide_eq_true (by omega)
        have d2 : decide (Hk.scan digitZ s i < s.size) = true := decide_eq_true (by omega)
        rw [d2] at c5
        rw [if_pos c4, sd hj, ag.ext (by omega), ag.byte hj, d1, if_neg c5]
    rename_i c4
    rw [if_neg c4]
    split at hn
    · cases hn
    · rename_i c5
      cases hn
      rw [sg c5 hj, if_neg c5, ag.ext (by omega)]
end
theorem lexL_prefix {s T : ByteArray} {e : Nat} (ag : Agree s T e) (hb : Beh T e) : ∀ (n i : Nat) (l : List Tk) (k : Nat) (t : Tk), s.size - i = n → lexL s i = .ok l → l[k]? = some t → k + 1 < l.length → t.pos + t.text.size = e → lexL T i = comb (l.take (k + 1)) (lexL T e) := by
  intro n
  induction n using Nat.strongRecOn with
  | _ n ih =>
    intro i l k t hn hl ht hk he
    have hT := ag.lT
    obtain ⟨m, em, hm1, hm2, hm3⟩ := lexL_wtk s i l hl
    have hkm : k < m.length := by rw [em] at hk; simp at hk; omega
    have htm : m[k]? = some t := by rw [em, List.getElem?_append_left hkm] at ht; exact ht
    obtain ⟨p1, p2, p3, p4⟩ := hm2 k t htm
    have hw := hm1 t (List.mem_of_getElem? htm)
    have hpos := hw.pos
    have hi : i < s.size := by omega
    obtain ⟨n1, n2⟩ := nxt_le hi
    have hN := ag.nxt (i := i) (by omega)
    cases hq : nxt s i with
    | skip j =>
      obtain ⟨j1, j2⟩ := n1 j hq
      have hl' : lexL s j = .ok l := by rw [← lexL_skip hi j1 hq]; exact hl
      obtain ⟨m', em', _, hm2', _⟩ := lexL_wtk s j l hl'
      have hmm : m' = m := by
        have := em'.symm.trans em
        exact (List.append_inj_left' this rfl)
      have := (hm2' k t (by rw [hmm]; exact htm)).1
      rw [lexL_skip (s := T) (by omega) j1 (hN.1 j hq (by omega))]
      exact ih _ (by omega) j l k t rfl hl' ht hk he
    | tok t0 j =>
      obtain ⟨j1, j2, j3⟩ := n2 t0 j hq
      obtain ⟨l', hl', el⟩ := lexL_tokJ hi j1 hq hl
      subst el
      cases k with
      | zero =>
        simp only [List.getElem?_cons_zero, Option.some.injEq] at ht
        subst ht
        have hE : Emb T t0.text t0.pos := ⟨by rw [ag.ext (by omega)]; exact p3, by omega⟩
        have := hw.step hE (by rw [he]; exact hb)
        rw [he, j3] at this
        rw [this]
        congr 1
        obtain ⟨a, b, c⟩ := t0
        simp only at j3
        rw [j3]; rfl
      | succ k =>
        simp only [List.getElem?_cons_succ] at ht
        simp only [List.length_cons] at hk
        obtain ⟨m', em', _, hm2', _⟩ := lexL_wtk s j l' hl'
        have hk' : k < m'.length := by rw [em'] at hk; simp at hk; omega
        have := (hm2' k t (by rw [em', List.getElem?_append_left hk'] at ht; exact ht)).1
        have hx := hN.2 t0 j hq (by omega)
        have h1 := lexL_tok (s := T) (by omega) j1 hx []
        rw [comb_nil, List.nil_append, ih _ (by omega) j l' k t rfl hl' ht (by omega) he, comb_comb] at h1
        rw [← h1]
        rfl
    | err x => rw [lexL_err hi hq] at hl; cases hl
/-- The law's text: what there is up to the error's token, a blank, and more. -/
def moreT (s : ByteArray) (e : Nat) (m : ByteArray) : ByteArray := s.extract 0 e ++ ⟨#[32]⟩ ++ m
theorem more_lex {s m : ByteArray} {l lm : List Tk} {k : Nat} {t : Tk} (h : lexR s = .ok l) (hm : lexR m = .ok lm) (hk : k + 1 < l.length) (ht : l[k]? = some t) (hs : s.size ≤ 600) (hms : m.size ≤ 600) : t.pos + t.text.size ≤ s.size ∧ ∃ l2, lexR (moreT s (t.pos + t.text.size) m) = .ok (l.take (k + 1) ++ l2) := by
  have h0 := lexR_ok0 h
  have hm0 := lexR_ok0 hm
  obtain ⟨q, em, hm1, hm2, hm3⟩ := lexL_wtk s 0 l h0
  have hkm : k < q.length := by rw [em] at hk; simp at hk; omega
  have htm : q[k]? = some t := by rw [em, List.getElem?_append_left hkm] at ht; exact ht
  obtain ⟨p1, p2, p3, p4⟩ := hm2 k t htm
  refine ⟨p2, ?_⟩
  generalize he : t.pos + t.text.size = e at *
  have sz : (s.extract 0 e).size = e := by rw [size_extract p2]; omega
  have szT : (moreT s e m).size = e + 1 + m.size := by
    unfold moreT
    simp only [ByteArray.size_append, sz]
    rfl
  have eA : Emb (moreT s e m) (s.extract 0 e) 0 := by
    have := Emb.self (moreT s e m)
    unfold moreT at this ⊢
    exact Emb.left (Emb.left this)
  have eB : Emb (moreT s e m) ⟨#[32]⟩ e := by
    have := Emb.self (moreT s e m)
    unfold moreT at this ⊢
    have := Emb.right (Emb.left this)
    rwa [Nat.zero_add, sz] at this
  have eC : Emb (moreT s e m) m (e + 1) := by
    have := Emb.self (moreT s e m)
    unfold moreT at this ⊢
    have := Emb.right this
    rw [ByteArray.size_append, sz, Nat.zero_add] at this
    exact this
  have b32 : byteAt (moreT s e m) e = 32 := by
    have := eB.byte (i := 0) (by decide)
    rw [Nat.add_zero] at this
    rw [this]; decide
  have ag : Agree s (moreT s e m) e := ⟨p2, by omega, by
    have := eA.sub
    rwa [sz, Nat.zero_add] at this⟩
  have hP := lexL_prefix ag (.inr (by rw [b32]; decide)) _ 0 l k t rfl h0 ht hk he
  have h2 : lexL (moreT s e m) e = lexL (moreT s e m) (e + 1) := lexL_skip (by omega) (by omega) (nxt_blank (by rw [b32]; decide))
  have h3 := lexL_shift eC (by omega) m.size 0 rfl
  rw [Nat.add_zero, hm0] at h3
  refine ⟨lm.map (shiftT (e + 1)), ?_⟩
  unfold lexR
  rw [if_neg (by omega), hP, h2, h3]
  rfl
theorem more_prog {s m : ByteArray} {l lm : List Tk} {c d : Int} {k : Nat} (h : lexR s = .ok l) (hm : lexR m = .ok lm) (hp : pProg l (16 * l.length + 4) [] 0 = some (.error (c, k, d))) (hk : k + 1 < l.length) (hs : s.size ≤ 600) (hms : m.size ≤ 600) :
    (tk l k).pos + (tk l k).text.size ≤ s.size ∧ progR (moreT s ((tk l k).pos + (tk l k).text.size) m) = ([], c, ((tk l k).pos : Int)) := by
  have ht : l[k]? = some (tk l k) := by rw [tk_get (by omega)]; exact List.getElem?_eq_getElem _
  obtain ⟨p, l2, hl2⟩ := more_lex h hm hk ht hs hms
  refine ⟨p, ?_⟩
  have wf := (lexR_wf h).toWfT
  have wf2 := (lexR_wf hl2).toWfT
  have h0 := lexR_pos hl2
  have hT : ∀ i, i ≤ k → tk (l.take (k + 1) ++ l2) i = tk l i := fun i hi => by
    simp only [tk, List.getD_eq_getElem?_getD]
    rw [List.getElem?_append_left (by simp; omega), List.getElem?_take, if_pos (by omega)]
  unfold progR
  rw [hl2]
  simp only []
  generalize hF : 16 * (l.take (k + 1) ++ l2).length + 4 = F2
  have e1 := pProg_to (J := k) wf (l' := l.take (k + 1) ++ l2) ⟨fun i hi => by rw [hT i hi], fun i hi => by rw [hT i hi]⟩ _ (max (16 * l.length + 4) F2) [] 0 (by omega) (lexR_pos h) (Nat.zero_le _) _ hp (Nat.le_refl _)
  cases hr : pProg (l.take (k + 1) ++ l2) F2 [] 0 with
  | none => exact absurd hr (pProg_some wf2 _ _ _ h0 (by omega))
  | some res =>
    have e2 := pProg_to (J := idx res) wf2 ⟨fun _ _ => rfl, fun _ _ => rfl⟩ F2 (max (16 * l.length + 4) F2) [] 0 (by omega) h0 (Nat.zero_le _) res hr (Nat.le_refl _)
    rw [e1] at e2
    cases e2
    simp only []
    rw [hT k (Nat.le_refl _)]
/-- Each token has its own place. -/
theorem pos_one {s : ByteArray} {l : List Tk} (h : lexR s = .ok l) {i k : Nat} (hi : i < l.length) (hk : k < l.length) (e : (tk l i).pos = (tk l k).pos) : i = k := by
  have h0 := lexR_ok0 h
  obtain ⟨q, em, hm1, hm2, hm3⟩ := lexL_wtk s 0 l h0
  have lt : ∀ i k, i < k → k < l.length → (tk l i).pos < (tk l k).pos := fun i k hik hk => by
    have hl : l.length = q.length + 1 := by rw [em]; simp
    have hq : q[i]? = some (tk l i) := by
      have : l[i]? = some (tk l i) := by rw [tk_get (by omega)]; exact List.getElem?_eq_getElem _
      rw [em, List.getElem?_append_left (by omega)] at this
      rw [em]; exact this
    obtain ⟨p1, p2, p3, p4⟩ := hm2 i _ hq
    have hw := (hm1 _ (List.mem_of_getElem? hq)).pos
    rcases Nat.lt_or_ge k q.length with h1 | h1
    · have hq2 : q[k]? = some (tk l k) := by
        have : l[k]? = some (tk l k) := by rw [tk_get (by omega)]; exact List.getElem?_eq_getElem _
        rw [em, List.getElem?_append_left (by omega)] at this
        rw [em]; exact this
      have := p4 k _ hik hq2
      omega
    · have : (tk l k).pos = s.size := by
        have : k = q.length := by omega
        subst this
        rw [em]
        simp [tk, List.getD_eq_getElem?_getD]
      omega
  rcases Nat.lt_trichotomy i k with h1 | h1 | h1
  · have := lt i k h1 hk; omega
  · exact h1
  · have := lt k i h1 hi; omega
end Go.Proofs.Hk

import Derived.Test.YtmgcmljldggllaaH0
set_option linter.unusedSimpArgs false
set_option linter.unusedVariables false
set_option linter.unusedVariables false
namespace Go.Proofs.Hk

/-! Whole numbers by limbs, the lowest first. -/
def B : Nat := 4294967296
theorem B_pos : 0 < B := by decide
theorem Bp (n : Nat) : 0 < B ^ n := Nat.pow_pos B_pos
def vl : List Nat → Nat
  | [] => 0
  | x :: l => x + B * vl l
def Lim (l : List Nat) : Prop := ∀ x ∈ l, x < B
def dig : Nat → Nat → List Nat
  | 0, _ => []
  | n + 1, V => V % B :: dig n (V / B)
def nl (V : Nat) : List Nat := if h : V = 0 then [] else V % B :: nl (V / B)
decreasing_by exact Nat.div_lt_self (Nat.pos_of_ne_zero h) (by decide)

theorem nl_zero : nl 0 = [] := by unfold nl; simp
theorem nl_pos {V : Nat} (h : V ≠ 0) : nl V = V % B :: nl (V / B) := by
  conv => lhs; unfold nl
  rw [dif_neg h]
theorem Lim.nil : Lim [] := fun x h => by simp at h
theorem Lim.cons {x : Nat} {l : List Nat} (h : x < B) (k : Lim l) : Lim (x :: l) := fun y hy => by
  rcases List.mem_cons.1 hy with rfl | hy
  · exact h
  · exact k y hy
theorem Lim.head {x : Nat} {l : List Nat} (h : Lim (x :: l)) : x < B := h x (by simp)
theorem Lim.tail {x : Nat} {l : List Nat} (h : Lim (x :: l)) : Lim l := fun y hy => h y (by simp [hy])
theorem Lim.app {l m : List Nat} (h : Lim l) (k : Lim m) : Lim (l ++ m) := fun y hy => by
  rcases List.mem_append.1 hy with hy | hy
  · exact h y hy
  · exact k y hy
theorem Lim.take {l : List Nat} (h : Lim l) (k : Nat) : Lim (l.take k) := fun y hy => h y (List.mem_of_mem_take hy)
theorem Lim.get {l : List Nat} (h : Lim l) {k : Nat} (hk : k < l.length) : l[k] < B := h _ (List.getElem_mem hk)

theorem vl_lt : ∀ {l : List Nat}, Lim l → vl l < B ^ l.length
  | [], _ => by simp [vl]
  | x :: l, h => by
    have h1 := h.head
    have h2 := vl_lt h.tail
    simp only [vl, List.length_cons, Nat.pow_succ]
    have : B * (vl l + 1) ≤ B * B ^ l.length := Nat.mul_le_mul_left _ h2
    rw [Nat.mul_add, Nat.mul_one] at this
    rw [Nat.mul_comm (B ^ l.length) B]
    omega
theorem vl_app : ∀ (l m : List Nat), vl (l ++ m) = vl l + B ^ l.length * vl m
  | [], m => by simp [vl]
  | x :: l, m => by
    simp only [List.cons_append, vl, vl_app l m, List.length_cons, Nat.pow_succ, Nat.mul_add]
    rw [Nat.mul_comm (B ^ l.length) B, Nat.mul_assoc, Nat.add_assoc]
theorem vl_take {l : List Nat} {k : Nat} (hk : k < l.length) : vl (l.take (k + 1)) = vl (l.take k) + B ^ k * l[k] := by
  rw [List.take_succ_eq_append_getElem hk, vl_app]
  simp [vl, List.length_take, Nat.min_eq_left (Nat.le_of_lt hk)]
theorem dig_length : ∀ (n V : Nat), (dig n V).length = n
  | 0, _ => rfl
  | n + 1, V => by simp [dig, dig_length n]
theorem dig_lim : ∀ (n V : Nat), Lim (dig n V)
  | 0, _ => Lim.nil
  | n + 1, V => Lim.cons (Nat.mod_lt _ B_pos) (dig_lim n _)
theorem vl_dig : ∀ (n V : Nat), vl (dig n V) = V % B ^ n
  | 0, V => by simp [dig, vl, Nat.mod_one]
  | n + 1, V => by
    simp only [dig, vl, vl_dig n]
    rw [Nat.pow_succ, Nat.mul_comm (B ^ n) B, Nat.mod_mul]
theorem dig_vl : ∀ {l : List Nat}, Lim l → dig l.length (vl l) = l
  | [], _ => rfl
  | x :: l, h => by
    have h1 := h.head
    simp only [List.length_cons, dig, vl]
    rw [Nat.add_mul_mod_self_left, Nat.mod_eq_of_lt h1, Nat.add_mul_div_left _ _ B_pos, Nat.div_eq_of_lt h1, Nat.zero_add, dig_vl h.tail]
theorem dig_eq {l : List Nat} {n V : Nat} (h : Lim l) (hn : l.length = n) (hv : vl l = V) : dig n V = l := by
  subst hn hv; exact dig_vl h
theorem dig_mod : ∀ (n V : Nat), dig n (V % B ^ n) = dig n V
  | n, V => by
    have := dig_vl (dig_lim n V)
    rwa [dig_length, vl_dig] at this
theorem dig_congr {n V W : Nat} (h : V % B ^ n = W % B ^ n) : dig n V = dig n W := by
  rw [← dig_mod n V, h, dig_mod]
theorem dig_snoc : ∀ (n V : Nat), dig (n + 1) V = dig n V ++ [V / B ^ n % B]
  | 0, V => by simp [dig]
  | n + 1, V => by
    rw [dig, dig_snoc n (V / B)]
    simp only [dig, List.cons_append, Nat.div_div_eq_div_mul, Nat.pow_succ, Nat.mul_comm (B ^ n) B]
theorem dig_zero : ∀ n : Nat, dig n 0 = List.replicate n 0
  | 0 => rfl
  | n + 1 => by simp [dig, dig_zero n, List.replicate_succ]
theorem nl_lim (V : Nat) : Lim (nl V) := by
  induction V using Nat.strongRecOn with
  | _ V ih =>
    by_cases h : V = 0
    · subst h; rw [nl_zero]; exact Lim.nil
    · rw [nl_pos h]
      exact Lim.cons (Nat.mod_lt _ B_pos) (ih _ (Nat.div_lt_self (Nat.pos_of_ne_zero h) (by decide)))
theorem vl_nl (V : Nat) : vl (nl V) = V := by
  induction V using Nat.strongRecOn with
  | _ V ih =>
    by_cases h : V = 0
    · subst h; rw [nl_zero]; rfl
    · rw [nl_pos h]
      simp only [vl]
      rw [ih _ (Nat.div_lt_self (Nat.pos_of_ne_zero h) (by decide)), Nat.mod_add_div]
/-- No nought on top. -/
def Top0 (l : List Nat) : Prop := ∀ x, l.getLast? = some x → x ≠ 0
theorem nl_top (V : Nat) : Top0 (nl V) := by
  induction V using Nat.strongRecOn with
  | _ V ih =>
    by_cases h : V = 0
    · subst h; rw [nl_zero]; intro x hx; simp at hx
    · rw [nl_pos h]
      intro x hx
      by_cases h2 : V / B = 0
      · rw [h2, nl_zero] at hx
        simp only [List.getLast?_singleton, Option.some.injEq] at hx
        have := Nat.mod_add_div V B
        rw [h2] at this
        omega
      · have := ih _ (Nat.div_lt_self (Nat.pos_of_ne_zero h) (show 1 < B by decide)) x
        rw [nl_pos h2] at hx this
        exact this (by simpa [List.getLast?_cons] using hx)
theorem top_tail {x : Nat} {l : List Nat} (h : Top0 (x :: l)) : Top0 l := fun y hy => h y (by
  cases l with
  | nil => simp at hy
  | cons z l => simpa [List.getLast?_cons] using hy)
theorem vl_ne : ∀ {l : List Nat}, Top0 l → l ≠ [] → vl l ≠ 0
  | [], _, h => absurd rfl h
  | [x], h, _ => by have := h x (by simp); simp [vl, this]
  | x :: y :: l, h, _ => by
    have := vl_ne (top_tail h) (by simp)
    have hb := B_pos
    simp only [vl] at this ⊢
    have : 0 < B * (y + B * vl l) := Nat.mul_pos hb (by omega)
    omega
theorem nl_vl : ∀ {l : List Nat}, Lim l → Top0 l → nl (vl l) = l
  | [], _, _ => nl_zero
  | x :: l, h, t => by
    have h1 := h.head
    rw [nl_pos (vl_ne t (by simp))]
    simp only [vl]
    rw [Nat.add_mul_mod_self_left, Nat.mod_eq_of_lt h1, Nat.add_mul_div_left _ _ B_pos, Nat.div_eq_of_lt h1, Nat.zero_add, nl_vl h.tail (top_tail t)]
theorem vl_zeros : ∀ n : Nat, vl (List.replicate n 0) = 0
  | 0 => rfl
  | n + 1 => by simp [List.replicate_succ, vl, vl_zeros n]
/-- Trimmed. -/
theorem trim_eq {l : List Nat} {k : Nat} (h : Lim l) (hk : k ≤ l.length) (h0 : ∀ j (hj : j < l.length), k ≤ j → l[j] = 0) (ht : ∀ (h0 : 0 < k), l[k - 1]'(by omega) ≠ 0) : l.take k = nl (vl l) := by
  have e : l = l.take k ++ List.replicate (l.length - k) 0 := by
    conv => lhs; rw [← List.take_append_drop k l]
    congr 1
    refine List.ext_getElem (by simp) fun i h1 h2 => ?_
    simp only [List.getElem_drop, List.getElem_replicate]
    exact h0 _ _ (by omega)
  have v : vl l = vl (l.take k) := by
    conv => lhs; rw [e]
    rw [vl_app, vl_zeros]; simp
  rw [v, nl_vl (h.take k)]
  intro x hx
  by_cases hk0 : 0 < k
  · rw [List.getLast?_eq_getElem?] at hx
    simp only [List.length_take, Nat.min_eq_left hk] at hx
    rw [List.getElem?_take, if_pos (by omega), List.getElem?_eq_getElem (by omega)] at hx
    simp only [Option.some.injEq] at hx
    rw [← hx]; exact ht hk0
  · have : k = 0 := by omega
    subst this
    simp at hx
theorem nl_len_lt {V n : Nat} (h : V < B ^ n) : (nl V).length ≤ n := by
  induction n generalizing V with
  | zero =>
    have : V = 0 := by simpa using h
    subst this; rw [nl_zero]; simp
  | succ n ih =>
    by_cases h0 : V = 0
    · subst h0; rw [nl_zero]; simp
    · rw [nl_pos h0]
      simp only [List.length_cons]
      have : V / B < B ^ n := Nat.div_lt_of_lt_mul (by rw [Nat.pow_succ, Nat.mul_comm] at h; exact h)
      have := ih this
      omega
theorem nl_len_pos {V : Nat} (h : V ≠ 0) : 0 < (nl V).length := by rw [nl_pos h]; simp
/-- Comparison of those without a nought on top. -/
theorem vl_ge : ∀ {l : List Nat}, Top0 l → l ≠ [] → B ^ (l.length - 1) ≤ vl l
  | [], _, h => absurd rfl h
  | [x], h, _ => by
    have := h x (by simp)
    simp [vl]; omega
  | x :: y :: l, h, _ => by
    have := vl_ge (top_tail h) (by simp)
    simp only [List.length_cons, Nat.add_sub_cancel] at this ⊢
    have h2 : B * B ^ l.length ≤ B * vl (y :: l) := Nat.mul_le_mul_left _ this
    rw [Nat.pow_succ, Nat.mul_comm]
    simp only [vl] at h2 ⊢
    omega
theorem vl_lt_of_len {l m : List Nat} (hl : Lim l) (hm : Top0 m) (h : l.length < m.length) : vl l < vl m := by
  have h1 := vl_lt hl
  have h2 := vl_ge hm (by intro e; subst e; simp at h)
  have : B ^ l.length ≤ B ^ (m.length - 1) := Nat.pow_le_pow_right B_pos (by omega)
  omega
theorem vl_cmp_at {l m : List Nat} (hl : Lim l) (hm : Lim m) (hlen : l.length = m.length) {k : Nat} (hk : k < l.length) (he : ∀ j (hj : j < l.length), k < j → l[j] = m[j]'(by omega)) (hlt : l[k] < m[k]'(by omega)) : vl l < vl m := by
  have e1 := vl_app (l.take (k + 1)) (l.drop (k + 1))
  have e2 := vl_app (m.take (k + 1)) (m.drop (k + 1))
  rw [List.take_append_drop] at e1 e2
  have hd : l.drop (k + 1) = m.drop (k + 1) := List.ext_getElem (by simp [hlen]) fun i h1 h2 => by
    simp only [List.getElem_drop]
    exact he _ (by simp at h1; omega) (by omega)
  rw [vl_take hk] at e1
  rw [vl_take (by omega)] at e2
  have a1 := vl_lt (hl.take k)
  rw [List.length_take, Nat.min_eq_left (by omega)] at a1
  have a2 : B ^ k * (l[k] + 1) ≤ B ^ k * m[k]'(by omega) := Nat.mul_le_mul_left _ hlt
  rw [Nat.mul_add, Nat.mul_one] at a2
  have e3 : (l.take (k + 1)).length = (m.take (k + 1)).length := by simp [hlen]
  rw [hd, e3] at e1
  omega
theorem dig_step (i S k : Nat) : dig (i + 1) (S + B ^ i * k) = dig i S ++ [(S / B ^ i + k) % B] := by
  rw [dig_snoc, Nat.add_mul_div_left _ _ (Bp i)]
  congr 1
  exact dig_congr (by rw [Nat.add_mul_mod_self_left])
theorem div_step (i S k : Nat) : (S + B ^ i * k) / B ^ (i + 1) = (S / B ^ i + k) / B := by
  rw [Nat.pow_succ, ← Nat.div_div_eq_div_mul, Nat.add_mul_div_left _ _ (Bp i)]
theorem shr32 (x : Nat) : ((x : Nat) : Int).fdiv (2 ^ (min (Int.toNat 32) 64)) = ((x / B : Nat) : Int) := by
  rw [Int.fdiv_eq_ediv_of_nonneg _ (by decide)]
  rfl
theorem mod32 (x : Nat) : ((x : Nat) : Int) % 4294967296 = ((x % B : Nat) : Int) := rfl
theorem vl_take_lt {l : List Nat} (h : Lim l) (i : Nat) : vl (l.take i) < B ^ i := by
  have := vl_lt (h.take i)
  refine Nat.lt_of_lt_of_le this (Nat.pow_le_pow_right B_pos ?_)
  simp; omega
theorem vl_set {l : List Nat} {j d : Nat} (hj : j < l.length) : vl (l.set j d) + B ^ j * l[j] = vl l + B ^ j * d := by
  have e1 : l = l.take j ++ l[j] :: l.drop (j + 1) := by simp
  have e2 : l.set j d = l.take j ++ d :: l.drop (j + 1) := by
    have e := List.set_eq_take_append_cons_drop (l := l) (i := j) (a := d)
    rw [if_pos hj] at e; exact e
  have v1 : vl l = vl (l.take j) + B ^ j * (l[j] + B * vl (l.drop (j + 1))) := by
    conv => lhs; rw [e1]
    rw [vl_app]; simp [vl, Nat.min_eq_left (Nat.le_of_lt hj)]
  have v2 : vl (l.set j d) = vl (l.take j) + B ^ j * (d + B * vl (l.drop (j + 1))) := by
    rw [e2, vl_app]; simp [vl, Nat.min_eq_left (Nat.le_of_lt hj)]
  rw [v1, v2, Nat.mul_add, Nat.mul_add]
  omega
theorem Lim.set {l : List Nat} (h : Lim l) {j d : Nat} (hd : d < B) : Lim (l.set j d) := fun y hy => by
  rcases List.mem_or_eq_of_mem_set hy with hy | rfl
  · exact h y hy
  · exact hd
/-- One step of a product. -/
theorem mul_step {P W c x y o V' V : Nat} (hV : V' + P * o = V + P * ((c + x * y + o) % B)) (hW : V + P * c = W) : V' + P * B * ((c + x * y + o) / B) = W + P * (x * y) := by
  have e := Nat.mod_add_div (c + x * y + o) B
  have e2 : P * (c + x * y + o) = P * ((c + x * y + o) % B) + P * B * ((c + x * y + o) / B) := by
    conv => lhs; rw [← e]
    rw [Nat.mul_add, Nat.mul_assoc]
  rw [Nat.mul_add, Nat.mul_add] at e2
  omega
theorem mul_le {x y : Nat} (hx : x < B) (hy : y < B) : x * y ≤ 18446744065119617025 := by
  have hx : x ≤ 4294967295 := Nat.le_of_lt_succ hx
  have hy : y ≤ 4294967295 := Nat.le_of_lt_succ hy
  exact Nat.mul_le_mul hx hy
theorem vl_rep (n : Nat) : vl (List.replicate n 0) = 0 := vl_zeros n
theorem Lim.rep (n : Nat) : Lim (List.replicate n 0) := fun y hy => by rw [(List.mem_replicate.1 hy).2]; exact B_pos
end Go.Proofs.Hk

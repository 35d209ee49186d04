import Derived.Test.YtmgcmljldggllaaH0
import Derived.Test.YtmgcmljldggllaaL1
import Derived.Test.YtmgcmljldggllaaH24
set_option linter.unusedVariables false
namespace Go.Proofs.Hk

/-! Whole numbers by limbs, the lowest first. -/
def B : Nat := 4294967296
theorem B_pos : 0 < B := by decide
theorem Bp (n : Nat) : 0 < B ^ n := Nat.pow_pos B_pos
def vl : List Nat → Nat
  | [] => 0
  | x :: l => x + B * vl l
def Lim (l : List Nat) : Prop := ∀ x ∈ l, x < B
def dig : Nat → Nat → List Nat
  | 0, _ => []
  | n + 1, V => V % B :: dig n (V / B)
def nl (V : Nat) : List Nat := if h : V = 0 then [] else V % B :: nl (V / B)
decreasing_by exact Nat.div_lt_self (Nat.pos_of_ne_zero h) (by decide)

theorem nl_zero : nl 0 = [] := by unfold nl; simp
theorem nl_pos {V : Nat} (h : V ≠ 0) : nl V = V % B :: nl (V / B) := by
  conv => lhs; unfold nl
  rw [dif_neg h]
theorem Lim.nil : Lim [] := fun x h => by simp at h
theorem Lim.cons {x : Nat} {l : List Nat} (h : x < B) (k : Lim l) : Lim (x :: l) := fun y hy => by
  rcases List.mem_cons.1 hy with rfl | hy
  · exact h
  · exact k y hy
theorem Lim.head {x : Nat} {l : List Nat} (h : Lim (x :: l)) : x < B := h x (by simp)
theorem Lim.tail {x : Nat} {l : List Nat} (h : Lim (x :: l)) : Lim l := fun y hy => h y (by simp [hy])
theorem Lim.app {l m : List Nat} (h : Lim l) (k : Lim m) : Lim (l ++ m) := fun y hy => by
  rcases List.mem_append.1 hy with hy | hy
  · exact h y hy
  · exact k y hy
theorem Lim.take {l : List Nat} (h : Lim l) (k : Nat) : Lim (l.take k) := fun y hy => h y (List.mem_of_mem_take hy)
theorem Lim.get {l : List Nat} (h : Lim l) {k : Nat} (hk : k < l.length) : l[k] < B := h _ (List.getElem_mem hk)

theorem vl_lt : ∀ {l : List Nat}, Lim l → vl l < B ^ l.length
  | [], _ => by simp [vl]
  | x :: l, h => by
    have h1 := h.head
    have h2 := vl_lt h.tail
    simp only [vl, List.length_cons, Nat.pow_succ]
    have : B * (vl l + 1) ≤ B * B ^ l.length := Nat.mul_le_mul_left _ h2
    rw [Nat.mul_add, Nat.mul_one] at this
    rw [Nat.mul_comm (B ^ l.length) B]
    omega
theorem vl_app : ∀ (l m : List Nat), vl (l ++ m) = vl l + B ^ l.length * vl m
  | [], m => by simp [vl]
  | x :: l, m => by
    simp only [List.cons_append, vl, vl_app l m, List.length_cons, Nat.pow_succ, Nat.mul_add]
    rw [Nat.mul_comm (B ^ l.length) B, Nat.mul_assoc, Nat.add_assoc]
theorem vl_take {l : List Nat} {k : Nat} (hk : k < l.length) : vl (l.take (k + 1)) = vl (l.take k) + B ^ k * l[k] := by
  rw [List.take_succ_eq_append_getElem hk, vl_app]
  simp [vl, List.length_take, Nat.min_eq_left (Nat.le_of_lt hk)]
theorem dig_length : ∀ (n V : Nat), (dig n V).length = n
  | 0, _ => rfl
  | n + 1, V => by simp [dig, dig_length n]
theorem dig_lim : ∀ (n V : Nat), Lim (dig n V)
  | 0, _ => Lim.nil
  | n + 1, V => Lim.cons (Nat.mod_lt _ B_pos) (dig_lim n _)
theorem vl_dig : ∀ (n V : Nat), vl (dig n V) = V % B ^ n
  | 0, V => by simp [dig, vl, Nat.mod_one]
  | n + 1, V => by
    simp only [dig, vl, vl_dig n]
    rw [Nat.pow_succ, Nat.mul_comm (B ^ n) B, Nat.mod_mul]
theorem dig_vl : ∀ {l : List Nat}, Lim l → dig l.length (vl l) = l
  | [], _ => rfl
  | x :: l, h => by
    have h1 := h.head
    simp only [List.length_cons, dig, vl]
    rw [Nat.add_mul_mod_self_left, Nat.mod_eq_of_lt h1, Nat.add_mul_div_left _ _ B_pos, Nat.div_eq_of_lt h1, Nat.zero_add, dig_vl h.tail]
theorem dig_eq {l : List Nat} {n V : Nat} (h : Lim l) (hn : l.length = n) (hv : vl l = V) : dig n V = l := by
  subst hn hv; exact dig_vl h
theorem dig_mod : ∀ (n V : Nat), dig n (V % B ^ n) = dig n V
  | n, V => by
    have := dig_vl (dig_lim n V)
    rwa [dig_length, vl_dig] at this
theorem dig_congr {n V W : Nat} (h : V % B ^ n = W % B ^ n) : dig n V = dig n W := by
  rw [← dig_mod n V, h, dig_mod]
theorem dig_snoc : ∀ (n V : Nat), dig (n + 1) V = dig n V ++ [V / B ^ n % B]
  | 0, V => by simp [dig]
  | n + 1, V => by
    rw [dig, dig_snoc n (V / B)]
    simp only [dig, List.cons_append, Nat.div_div_eq_div_mul, Nat.pow_succ, Nat.mul_comm (B ^ n) B]
theorem dig_zero : ∀ n : Nat, dig n 0 = List.replicate n 0
  | 0 => rfl
  | n + 1 => by simp [dig, dig_zero n, List.replicate_succ]
theorem nl_lim (V : Nat) : Lim (nl V) := by
  induction V using Nat.strongRecOn with
  | _ V ih =>
    by_cases h : V = 0
    · subst h; rw [nl_zero]; exact Lim.nil
    · rw [nl_pos h]
      exact Lim.cons (Nat.mod_lt _ B_pos) (ih _ (Nat.div_lt_self (Nat.pos_of_ne_zero h) (by decide)))
theorem vl_nl (V : Nat) : vl (nl V) = V := by
  induction V using Nat.strongRecOn with
  | _ V ih =>
    by_cases h : V = 0
    · subst h; rw [nl_zero]; rfl
    · rw [nl_pos h]
      simp only [vl]
      rw [ih _ (Nat.div_lt_self (Nat.pos_of_ne_zero h) (by decide)), Nat.mod_add_div]
/-- No nought on top. -/
def Top0 (l : List Nat) : Prop := ∀ x, l.getLast? = some x → x ≠ 0
theorem nl_top (V : Nat) : Top0 (nl V) := by
  induction V using Nat.strongRecOn with
  | _ V ih =>
    by_cases h : V = 0
    · subst h; rw [nl_zero]; intro x hx; simp at hx
    · rw [nl_pos h]
      intro x hx
      by_cases h2 : V / B = 0
      · rw [h2, nl_zero] at hx
        simp only [List.getLast?_singleton, Option.some.injEq] at hx
        have := Nat.mod_add_div V B
        rw [h2] at this
        omega
      · have := ih _ (Nat.div_lt_self (Nat.pos_of_ne_zero h) (show 1 < B by decide)) x
        rw [nl_pos h2] at hx this
        exact this (by simpa [List.getLast?_cons] using hx)
theorem top_tail {x : Nat} {l : List Nat} (h : Top0 (x :: l)) : Top0 l := fun y hy => h y (by
  cases l with
  | nil => simp at hy
  | cons z l => simpa [List.getLast?_cons] using hy)
theorem vl_ne : ∀ {l : List Nat}, Top0 l → l ≠ [] → vl l ≠ 0
  | [], _, h => absurd rfl h
  | [x], h, _ => by have := h x (by simp); simp [vl, this]
  | x :: y :: l, h, _ => by
    have := vl_ne (top_tail h) (by simp)
    have hb := B_pos
    simp only [vl] at this ⊢
    have : 0 < B * (y + B * vl l) := Nat.mul_pos hb (by omega)
    omega
theorem nl_vl : ∀ {l : List Nat}, Lim l → Top0 l → nl (vl l) = l
  | [], _, _ => nl_zero
  | x :: l, h, t => by
    have h1 := h.head
    rw [nl_pos (vl_ne t (by simp))]
    simp only [vl]
    rw [Nat.add_mul_mod_self_left, Nat.mod_eq_of_lt h1, Nat.add_mul_div_left _ _ B_pos, Nat.div_eq_of_lt h1, Nat.zero_add, nl_vl h.tail (top_tail t)]
theorem vl_zeros : ∀ n : Nat, vl (List.replicate n 0) = 0
  | 0 => rfl
  | n + 1 => by simp [List.replicate_succ, vl, vl_zeros n]
/-- Trimmed. -/
theorem trim_eq {l : List Nat} {k : Nat} (h : Lim l) (hk : k ≤ l.length) (h0 : ∀ j (hj : j < l.length), k ≤ j → l[j] = 0) (ht : ∀ (h0 : 0 < k), l[k - 1]'(by omega) ≠ 0) : l.take k = nl (vl l) := by
  have e : l = l.take k ++ List.replicate (l.length - k) 0 := by
    conv => lhs; rw [← List.take_append_drop k l]
    congr 1
    refine List.ext_getElem (by simp) fun i h1 h2 => ?_
    simp only [List.getElem_drop, List.getElem_replicate]
    exact h0 _ _ (by omega)
  have v : vl l = vl (l.take k) := by
    conv => lhs; rw [e]
    rw [vl_app, vl_zeros]; simp
  rw [v, nl_vl (h.take k)]
  intro x hx
  by_cases hk0 : 0 < k
  · rw [List.getLast?_eq_getElem?] at hx
    simp only [List.length_take, Nat.min_eq_left hk] at hx
    rw [List.getElem?_take, if_pos (by omega), List.getElem?_eq_getElem (by omega)] at hx
    simp only [Option.some.injEq] at hx
    rw [← hx]; exact ht hk0
  · have : k = 0 := by omega
    subst this
    simp at hx
theorem nl_len_lt {V n : Nat} (h : V < B ^ n) : (nl V).length ≤ n := by
  induction n generalizing V with
  | zero =>
    have : V = 0 := by simpa using h
    subst this; rw [nl_zero]; simp
  | succ n ih =>
    by_cases h0 : V = 0
    · subst h0; rw [nl_zero]; simp
    · rw [nl_pos h0]
      simp only [List.length_cons]
      have : V / B < B ^ n := Nat.div_lt_of_lt_mul (by rw [Nat.pow_succ, Nat.mul_comm] at h; exact h)
      have := ih this
      omega
theorem nl_len_pos {V : Nat} (h : V ≠ 0) : 0 < (nl V).length := by rw [nl_pos h]; simp
/-- Comparison of those without a nought on top. -/
theorem vl_ge : ∀ {l : List Nat}, Top0 l → l ≠ [] → B ^ (l.length - 1) ≤ vl l
  | [], _, h => absurd rfl h
  | [x], h, _ => by
    have := h x (by simp)
    simp [vl]; omega
  | x :: y :: l, h, _ => by
    have := vl_ge (top_tail h) (by simp)
    simp only [List.length_cons, Nat.add_sub_cancel] at this ⊢
    have h2 : B * B ^ l.length ≤ B * vl (y :: l) := Nat.mul_le_mul_left _ this
    rw [Nat.pow_succ, Nat.mul_comm]
    simp only [vl] at h2 ⊢
    omega
theorem vl_lt_of_len {l m : List Nat} (hl : Lim l) (hm : Top0 m) (h : l.length < m.length) : vl l < vl m := by
  have h1 := vl_lt hl
  have h2 := vl_ge hm (by intro e; subst e; simp at h)
  have : B ^ l.length ≤ B ^ (m.length - 1) := Nat.pow_le_pow_right B_pos (by omega)
  omega
theorem vl_cmp_at {l m : List Nat} (hl : Lim l) (hm : Lim m) (hlen : l.length = m.length) {k : Nat} (hk : k < l.length) (he : ∀ j (hj : j < l.length), k < j → l[j] = m[j]'(by omega)) (hlt : l[k] < m[k]'(by omega)) : vl l < vl m := by
  have e1 := vl_app (l.take (k + 1)) (l.drop (k + 1))
  have e2 := vl_app (m.take (k + 1)) (m.drop (k + 1))
  rw [List.take_append_drop] at e1 e2
  have hd : l.drop (k + 1) = m.drop (k + 1) := List.ext_getElem (by simp [hlen]) fun i h1 h2 => by
    simp only [List.getElem_drop]
    exact he _ (by simp at h1; omega) (by omega)
  rw [vl_take hk] at e1
  rw [vl_take (by omega)] at e2
  have a1 := vl_lt (hl.take k)
  rw [List.length_take, Nat.min_eq_left (by omega)] at a1
  have a2 : B ^ k * (l[k] + 1) ≤ B ^ k * m[k]'(by omega) := Nat.mul_le_mul_left _ hlt
  rw [Nat.mul_add, Nat.mul_one] at a2
  have e3 : (l.take (k + 1)).length = (m.take (k + 1)).length := by simp [hlen]
  rw [hd, e3] at e1
  omega
theorem dig_step (i S k : Nat) : dig (i + 1) (S + B ^ i * k) = dig i S ++ [(S / B ^ i + k) % B] := by
  rw [dig_snoc, Nat.add_mul_div_left _ _ (Bp i)]
  congr 1
  exact dig_congr (by rw [Nat.add_mul_mod_self_left])
theorem div_step (i S k : Nat) : (S + B ^ i * k) / B ^ (i + 1) = (S / B ^ i + k) / B := by
  rw [Nat.pow_succ, ← Nat.div_div_eq_div_mul, Nat.add_mul_div_left _ _ (Bp i)]
theorem shr32 (x : Nat) : ((x : Nat) : Int).fdiv (2 ^ (min (Int.toNat 32) 64)) = ((x / B : Nat) : Int) := by
  rw [Int.fdiv_eq_ediv_of_nonneg _ (by decide)]
  rfl
theorem mod32 (x : Nat) : ((x : Nat) : Int) % 4294967296 = ((x % B : Nat) : Int) := rfl
theorem vl_take_lt {l : List Nat} (h : Lim l) (i : Nat) : vl (l.take i) < B ^ i := by
  have := vl_lt (h.take i)
  refine Nat.lt_of_lt_of_le this (Nat.pow_le_pow_right B_pos ?_)
  simp; omega
theorem vl_set {l : List Nat} {j d : Nat} (hj : j < l.length) : vl (l.set j d) + B ^ j * l[j] = vl l + B ^ j * d := by
  have e1 : l = l.take j ++ l[j] :: l.drop (j + 1) := by simp
  have e2 : l.set j d = l.take j ++ d :: l.drop (j + 1) := by
    have e := List.set_eq_take_append_cons_drop (l := l) (i := j) (a := d)
    rw [if_pos hj] at e; exact e
  have v1 : vl l = vl (l.take j) + B ^ j * (l[j] + B * vl (l.drop (j + 1))) := by
    conv => lhs; rw [e1]
    rw [vl_app]; simp [vl, Nat.min_eq_left (Nat.le_of_lt hj)]
  have v2 : vl (l.set j d) = vl (l.take j) + B ^ j * (d + B * vl (l.drop (j + 1))) := by
    rw [e2, vl_app]; simp [vl, Nat.min_eq_left (Nat.le_of_lt hj)]
  rw [v1, v2, Nat.mul_add, Nat.mul_add]
  omega
theorem Lim.set {l : List Nat} (h : Lim l) {j d : Nat} (hd : d < B) : Lim (l.set j d) := fun y hy => by
  rcases List.mem_or_eq_of_mem_set hy with hy | rfl
  · exact h y hy
  · exact hd
/-- One step of a product. -/
theorem mul_step {P W c x y o V' V : Nat} (hV : V' + P * o = V + P * ((c + x * y + o) % B)) (hW : V + P * c = W) : V' + P * B * ((c + x * y + o) / B) = W + P * (x * y) := by
  have e := Nat.mod_add_div (c + x * y + o) B
  have e2 : P * (c + x * y + o) = P * ((c + x * y + o) % B) + P * B * ((c + x * y + o) / B) := by
    conv => lhs; rw [← e]
    rw [Nat.mul_add, Nat.mul_assoc]
  rw [Nat.mul_add, Nat.mul_add] at e2
  omega
theorem mul_le {x y : Nat} (hx : x < B) (hy : y < B) : x * y ≤ 18446744065119617025 := by
  have hx : x ≤ 4294967295 := Nat.le_of_lt_succ hx
  have hy : y ≤ 4294967295 := Nat.le_of_lt_succ hy
  exact Nat.mul_le_mul hx hy
theorem vl_rep (n : Nat) : vl (List.replicate n 0) = 0 := vl_zeros n
theorem Lim.rep (n : Nat) : Lim (List.replicate n 0) := fun y hy => by rw [(List.mem_replicate.1 hy).2]; exact B_pos
end Go.Proofs.Hk

set_option linter.unusedSimpArgs false
set_option linter.unusedVariables false
namespace Go.Proofs.Hk
open Go Go.Proofs

def u32 (n : Nat) : HV := .v (.int .u32 n)
def u64 (n : Nat) : HV := .v (.int .u64 n)
def LL (l : List Nat) : HV := .list .no 1 (l.map u32)
structure GI where
  neg : Bool
  l : List Nat
def encP (n : Bool) (l : List Nat) : HV := .agg [bb n, LL l]
def encI (g : GI) : HV := encP g.neg g.l
def GI.may (g : GI) : Bool := match g.l.getLast? with
  | none => !g.neg
  | some x => x != 0
/-- What is read of a number: its limbs are limbs, and not too many. -/
structure GI.Ok (g : GI) : Prop where
  lim : Lim g.l
  len : g.l.length ≤ 1099511627776
def sg (n : Bool) (V : Nat) : Int := if n = true then -(V : Int) else V
def toZ (g : GI) : Int := if g.may = true then sg g.neg (vl g.l) else 0
def ofZ (z : Int) : GI := ⟨decide (z < 0), nl z.natAbs⟩

theorem getD_u32 {l : List Nat} {k : Int} {n : Nat} (hk : k = n) (h : n < l.length) : (l.map u32).getD k.toNat default = .v (.int .u32 (l[n] : Int)) := by
  subst hk
  simp [List.getD_eq_getElem?_getD, h, u32]
theorem may_top {g : GI} (h : g.may = true) : Top0 g.l := fun x hx => by
  unfold GI.may at h
  rw [hx] at h
  simpa using h

theorem may_at {n : Bool} {l : List Nat} (h : 0 < l.length) : (GI.mk n l).may = ((l[l.length - 1]'(by omega) : Int) != 0) := by
  unfold GI.may
  simp only [List.getLast?_eq_getElem?]
  rw [List.getElem?_eq_getElem (by omega)]
  simp only []
  by_cases h0 : l[l.length - 1]'(by omega) = 0
  · rw [h0]; rfl
  · rw [bne_iff_ne.2 h0, bne_iff_ne.2 (by omega)]
theorem May_spec (g : GI) (hg : g.Ok) : Pur cx 71 [encI g] (bb g.may) := by
  obtain ⟨n, l⟩ := g
  have hl : l.length ≤ 1099511627776 := hg.len
  have hm : (l.map u32).length = l.length := by simp
  change Pur cx _ [encP n l] _
  refine Pur.of (sem_calls' cx (fn := Try.f71) rfl rfl rfl rfl ?_)
  by_cases h0 : l.length = 0
  · have : l = [] := List.length_eq_zero_iff.1 h0
    subst this
    repeat' first | refine Ops.tag rfl ?_ | (refine OpsT.go ?_; (conv => arg 7; whnf)) | ((with_reducible refine Stp.isEq ?_); first | refine Stp.eqT ?_) | refine Stp.pure rfl ?_ | refine PutK.mk' rfl ?_ | refine Ops.nil ?_ | ((with_reducible refine Look.id ?_); refine Look.auto ?_ (by repeat first | exact HGet.hit); try (conv => arg 7; whnf)) | ((with_reducible refine Side.id ?_); first | refine Side.auto ?_) | ((with_reducible refine Br.id ?_); first | (with_reducible first | refine br_true rfl ?_)) | ((with_reducible refine SemWp.id ?_); first | refine sem_seq ?_ | refine sem_region rfl ?_ | refine sem_cond rfl ?_ | refine sem_ret ?_) | ((with_reducible refine qThen.id ?_); first | refine qThen.go ?_ | refine qThen.ret ?_) | refine Stp.valS ?_ | refine Stp.look ?_ | refine Stp.eff ?_ | (refine newN (fun r hr => ?_); simp only [keys, List.nil_append, List.cons_append, List.map_cons, List.map_nil, List.mem_cons, List.not_mem_nil, not_or, or_false, not_false_eq_true] at hr) | ((with_reducible refine BodyR.id ?_); first | refine BodyR.ret ?_) | ((with_reducible refine ResG.id ?_); first | refine ResG.tmp rfl ?_ | refine ResG.nil ?_)
    exact Fin.mk rfl
  · have g1 : (l.map u32).getD (((l.map u32).length : Int) - 1).toNat default = .v (.int .u32 (l[l.length - 1]'(by omega) : Int)) := getD_u32 (n := l.length - 1) (by rw [hm]; omega) (by omega)
    repeat' first | refine Ops.tag rfl ?_ | (refine OpsT.go ?_; (conv => arg 7; whnf)) | ((with_reducible refine Stp.isSum ?_); refine Stp.sum ?_) | ((with_reducible refine Stp.isEq ?_); first | refine Stp.eqF ?_) | refine Stp.pure rfl ?_ | refine PutK.mk' rfl ?_ | refine Ops.nil ?_ | ((with_reducible refine Look.id ?_); refine Look.auto ?_ (by repeat first | exact HGet.hit); try (conv => arg 7; whnf)) | ((with_reducible refine Side.id ?_); first | refine Side.auto ?_) | ((with_reducible refine Br.id ?_); first | (with_reducible first | refine br_false rfl ?_)) | ((with_reducible refine SemWp.id ?_); first | refine sem_seq ?_ | refine sem_region rfl ?_ | refine sem_cond rfl ?_ | refine sem_ret ?_ | refine sem_skip ?_) | ((with_reducible refine qThen.id ?_); first | refine qThen.go ?_) | refine Stp.valS ?_ | refine Stp.look ?_ | refine Stp.eff ?_ | (refine newN (fun r hr => ?_); simp only [keys, List.nil_append, List.cons_append, List.map_cons, List.map_nil, List.mem_cons, List.not_mem_nil, not_or, or_false, not_false_eq_true] at hr) | ((with_reducible refine BodyR.id ?_); first | refine BodyR.ret ?_) | ((with_reducible refine ResG.id ?_); first | refine ResG.tmp rfl ?_ | refine ResG.nil ?_) | rw [g1]
    all_goals first
      | (exact Fin.mk (by rw [may_at (by omega)]; rfl))
      | (exfalso; omega)
theorem neg_spec (g : GI) (hg : g.Ok) : Pur cx 55 [encI g] (bb (decide (toZ g < 0))) := by
  have hM := May_spec g hg
  obtain ⟨n, l⟩ := g
  change Pur cx _ [encP n l] _ at hM
  change Pur cx _ [encP n l] _
  refine Pur.of (sem_calls' cx (fn := Try.f55) rfl rfl rfl rfl ?_)
  have e : decide (toZ ⟨n, l⟩ < 0) = ((GI.mk n l).may && n) := by
    unfold toZ
    show decide ((if (GI.mk n l).may = true then sg n (vl l) else 0) < 0) = _
    cases hm : (GI.mk n l).may with
    | false => simp
    | true =>
      have ht := may_top hm
      cases n with
      | false => simp [sg]
      | true =>
        have : l ≠ [] := by intro e; subst e; simp [GI.may] at hm
        have h3 : vl l ≠ 0 := vl_ne ht this
        simp [sg]; omega
  repeat' first | refine Ops.tag rfl ?_ | (refine OpsT.go ?_; (conv => arg 7; whnf)) | refine Stp.pure rfl ?_ | refine PutK.mk' rfl ?_ | refine Ops.nil ?_ | ((with_reducible refine Look.id ?_); refine Look.auto ?_ (by repeat first | exact HGet.hit); try (conv => arg 7; whnf)) | ((with_reducible refine Side.id ?_); first | refine Side.auto ?_) | ((with_reducible refine SemWp.id ?_); first | refine sem_seq ?_ | refine sem_region rfl ?_ | refine sem_ret ?_) | ((with_reducible refine qThen.id ?_); first | refine qThen.go ?_) | refine Stp.valS ?_ | refine Stp.valSC ?_ | refine Stp.look ?_ | refine Stp.call ?_ | refine Stp.eff ?_ | ((with_reducible refine CallWp.id ?_); first | refine Pur.call (hM) ?_) | (refine newN (fun r hr => ?_); simp only [keys, List.nil_append, List.cons_append, List.map_cons, List.map_nil, List.mem_cons, List.not_mem_nil, not_or, or_false, not_false_eq_true] at hr) | ((with_reducible refine BodyR.id ?_); first | refine BodyR.ret ?_) | ((with_reducible refine ResG.id ?_); first | refine ResG.tmp rfl ?_ | refine ResG.nil ?_)
  all_goals exact Fin.mk (by rw [e]; rfl)
theorem limbs_spec (g : GI) (hg : g.Ok) : Pur cx 54 [encI g] (LL (nl (toZ g).natAbs)) := by
  have hM := May_spec g hg
  have hlim := hg.lim
  obtain ⟨n, l⟩ := g
  change Pur cx _ [encP n l] _ at hM
  change Pur cx _ [encP n l] _
  refine Pur.ofW (sem_calls' cx (fn := Try.f54) rfl rfl rfl rfl ?_)
  cases hm : (GI.mk n l).may with
  | false =>
    rw [hm] at hM
    have : (toZ ⟨n, l⟩).natAbs = 0 := by simp [toZ, hm]
    rw [this, nl_zero]
    repeat' first | refine Ops.tag rfl ?_ | (refine OpsT.go ?_; (conv => arg 7; whnf)) | (with_reducible first | refine Stp.notF ?_) | refine Stp.pure rfl ?_ | refine PutK.mk' rfl ?_ | refine Ops.nil ?_ | ((with_reducible refine Look.id ?_); refine Look.auto ?_ (by repeat first | exact HGet.hit); try (conv => arg 7; whnf)) | ((with_reducible refine Side.id ?_); first | refine Side.auto ?_) | ((with_reducible refine Br.id ?_); first | (with_reducible first | refine br_true rfl ?_)) | ((with_reducible refine SemWp.id ?_); first | refine sem_seq ?_ | refine sem_region rfl ?_ | refine sem_cond rfl ?_ | refine sem_ret ?_) | ((with_reducible refine qThen.id ?_); first | refine qThen.go ?_ | refine qThen.ret ?_) | refine Stp.look ?_ | refine Stp.call ?_ | refine Stp.eff ?_ | ((with_reducible refine CallWp.id ?_); first | refine Pur.call (hM) ?_) | (refine newN (fun r hr => ?_); simp only [keys, List.nil_append, List.cons_append, List.map_cons, List.map_nil, List.mem_cons, List.not_mem_nil, not_or, or_false, not_false_eq_true] at hr) | ((with_reducible refine BodyR.id ?_); first | refine BodyR.ret ?_) | ((with_reducible refine ResG.id ?_); first | refine ResG.tmp rfl ?_ | refine ResG.nil ?_)
    exact Fin.weak (Weaker.nil 1)
  | true =>
    rw [hm] at hM
    have : nl (toZ ⟨n, l⟩).natAbs = l := by
      have : (toZ ⟨n, l⟩).natAbs = vl l := by simp only [toZ, hm, if_true, sg]; split <;> omega
      rw [this, nl_vl hlim (may_top hm)]
    rw [this]
    repeat' first | refine Ops.tag rfl ?_ | (refine OpsT.go ?_; (conv => arg 7; whnf)) | (with_reducible first | refine Stp.notT ?_) | refine Stp.pure rfl ?_ | refine PutK.mk' rfl ?_ | refine Ops.nil ?_ | ((with_reducible refine Look.id ?_); refine Look.auto ?_ (by repeat first | exact HGet.hit); try (conv => arg 7; whnf)) | ((with_reducible refine Side.id ?_); first | refine Side.auto ?_) | ((with_reducible refine Br.id ?_); first | (with_reducible first | refine br_false rfl ?_)) | ((with_reducible refine SemWp.id ?_); first | refine sem_seq ?_ | refine sem_region rfl ?_ | refine sem_cond rfl ?_ | refine sem_ret ?_ | refine sem_skip ?_) | ((with_reducible refine qThen.id ?_); first | refine qThen.go ?_) | refine Stp.valS ?_ | refine Stp.look ?_ | refine Stp.call ?_ | refine Stp.eff ?_ | ((with_reducible refine CallWp.id ?_); first | refine Pur.call (hM) ?_) | (refine newN (fun r hr => ?_); simp only [keys, List.nil_append, List.cons_append, List.map_cons, List.map_nil, List.mem_cons, List.not_mem_nil, not_or, or_false, not_false_eq_true] at hr) | ((with_reducible refine BodyR.id ?_); first | refine BodyR.ret ?_) | ((with_reducible refine ResG.id ?_); first | refine ResG.tmp rfl ?_ | refine ResG.nil ?_)
    exact Fin.weak (Weaker.refl _)
theorem low_specI (z : Int) : Pur cx 73 [.v (.int .u64 z)] (.v (.int .u32 (z % 4294967296))) := by
  refine Pur.ofW (sem_calls' cx (fn := Try.f73) rfl rfl rfl rfl ?_)
  repeat' first | refine Ops.tag rfl ?_ | (refine OpsT.go ?_; (conv => arg 7; whnf)) | refine Stp.pure rfl ?_ | refine Ops.nil ?_ | ((with_reducible refine SemWp.id ?_); first | refine sem_seq ?_ | refine sem_region rfl ?_ | refine sem_ret ?_) | ((with_reducible refine qThen.id ?_); first | refine qThen.go ?_) | ((with_reducible refine BodyR.id ?_); first | refine BodyR.ret ?_) | ((with_reducible refine ResG.id ?_); first | refine ResG.tmp rfl ?_ | refine ResG.nil ?_)
  refine Fin.weak (Weaker.eq ?_)
  show HV.v (.int .u32 (IntKind.u32.wrap z)) = _
  rw [IntKind.wrap_u32]
theorem low_spec (x : Nat) : Pur cx 73 [u64 x] (u32 (x % B)) := by
  refine Pur.ofW (sem_calls' cx (fn := Try.f73) rfl rfl rfl rfl ?_)
  repeat' first | refine Ops.tag rfl ?_ | (refine OpsT.go ?_; (conv => arg 7; whnf)) | refine Stp.pure rfl ?_ | refine Ops.nil ?_ | ((with_reducible refine SemWp.id ?_); first | refine sem_seq ?_ | refine sem_region rfl ?_ | refine sem_ret ?_) | ((with_reducible refine qThen.id ?_); first | refine qThen.go ?_) | ((with_reducible refine BodyR.id ?_); first | refine BodyR.ret ?_) | ((with_reducible refine ResG.id ?_); first | refine ResG.tmp rfl ?_ | refine ResG.nil ?_)
  refine Fin.weak (Weaker.eq ?_)
  show HV.v (.int .u32 (IntKind.u32.wrap (x : Int))) = _
  rw [IntKind.wrap_u32]
  rfl
theorem clone_spec (l : List Nat) (hl : l.length ≤ 1099511627776) : Pur cx 72 [LL l] (LL l) := by
  have hm : (l.map u32).length = l.length := by simp
  refine Pur.ofW (sem_calls' cx (fn := Try.f72) rfl rfl rfl rfl ?_)
  repeat' first | refine Ops.tag rfl ?_ | (refine OpsT.go ?_; (conv => arg 7; whnf)) | refine Stp.pure rfl ?_ | refine PutK.mk' rfl ?_ | refine Ops.nil ?_ | ((with_reducible refine Side.id ?_); first | refine Side.auto ?_) | ((with_reducible refine Br.id ?_); first | refine br_split (fun _ => ?_) (fun _ => ?_)) | ((with_reducible refine SemWp.id ?_); first | refine sem_seq ?_ | refine sem_region rfl ?_ | refine sem_cond rfl ?_ | refine sem_ret ?_ | refine sem_skip ?_) | ((with_reducible refine qThen.id ?_); first | refine qThen.go ?_ | refine qThen.ret ?_) | refine Stp.eff ?_ | (refine newN (fun r hr => ?_); simp only [keys, List.nil_append, List.cons_append, List.map_cons, List.map_nil, List.mem_cons, List.not_mem_nil, not_or, or_false, not_false_eq_true] at hr) | ((with_reducible refine BodyR.id ?_); first | refine BodyR.ret ?_) | ((with_reducible refine ResG.id ?_); first | refine ResG.tmp rfl ?_ | refine ResG.nil ?_) | ((with_reducible refine Grow2.id ?_); refine Grow2.own ?_) | refine newB (fun b hb => ?_) | refine grow_split (fun _ => ?_) (fun _ => ?_)
  · rename_i h
    exact Fin.weak (by rw [LL, hb h]; exact Weaker.nil 1)
  · rename_i h
    exact Fin.weak (by rw [LL, h]; exact Weaker.tok _ _ _)
  · exact Fin.weak (Weaker.tok _ _ _)
theorem sg_ofZ (n : Bool) (V : Nat) : ofZ (sg n V) = ⟨n && decide (V ≠ 0), nl V⟩ := by
  unfold ofZ sg
  cases n with
  | true =>
    simp only [if_true]
    rw [show (-(V : Int)).natAbs = V from by omega, Bool.true_and]
    congr 1
    rw [decide_eq_decide]; omega
  | false =>
    simp only [Bool.false_eq_true, if_false, Bool.false_and, Int.natAbs_natCast]
    rw [show decide ((V : Int) < 0) = false from decide_eq_false (by omega)]
theorem made_spec (n : Bool) (l : List Nat) (hl : Lim l) (hn : l.length ≤ 1099511627776) : Pur cx 56 [bb n, LL l] (encI (ofZ (sg n (vl l)))) := by
  have hm : (l.map u32).length = l.length := by simp
  rw [sg_ofZ]
  change Pur cx _ _ (encP _ _)
  refine Pur.ofW (sem_calls' cx (fn := Try.f56) rfl rfl rfl rfl ?_)
  repeat' first | refine Ops.tag rfl ?_ | (refine OpsT.go ?_; (conv => arg 7; whnf)) | refine Stp.pure rfl ?_ | refine PutK.mk' rfl ?_ | refine Ops.nil ?_ | ((with_reducible refine SemWp.id ?_); first | refine sem_seq ?_ | refine sem_region rfl ?_ | refine sem_block ?_) | ((with_reducible refine qThen.id ?_); first | refine qThen.go ?_) | refine Stp.eff ?_ | (refine newN (fun r hr => ?_); simp only [keys, List.nil_append, List.cons_append, List.map_cons, List.map_nil, List.mem_cons, List.not_mem_nil, not_or, or_false, not_false_eq_true] at hr)
  refine sem_loop cx (ι := Nat) (fun k => k ≤ l.length ∧ ∀ j (hj : j < l.length), k ≤ j → l[j] = 0) (fun k => [(0, .sure, bb n), (1, .sure, LL l), (4, .sure, .ptr r 0), (5, .sure, ii k)]) (fun _ => [(r, .cells [bb false, .v (.slice none 0 0)] 40)]) (fun k => k) l.length ⟨Nat.le_refl _, fun j h1 h2 => by omega⟩ (Sub.cons rfl rfl (Sub.cons rfl rfl (Sub.cons rfl rfl (Sub.cons rfl (by rw [hm]; rfl) (Sub.nil _))))) (Subp.refl _) ?_
  rintro k ⟨k1, k2⟩
  by_cases h0 : k = 0
  · subst h0
    repeat' first | refine Ops.tag rfl ?_ | (with_reducible first | refine OpsT.no ?_) | (refine OpsT.go ?_; (conv => arg 7; whnf)) | (with_reducible first | refine Stp.andF ?_) | ((with_reducible refine Stp.isDec ?_); first | refine Stp.decF ?_) | ((with_reducible refine Stp.isEq ?_); first | refine Stp.eqT ?_) | refine Stp.pure rfl ?_ | ((with_reducible refine PutK.isSet ?_); refine PutK.set (by repeat first | exact HsetIs.hit) ?_) | refine PutK.mk' rfl ?_ | refine Ops.nil ?_ | ((with_reducible refine Look.id ?_); refine Look.auto ?_ (by repeat first | exact HGet.hit); try (conv => arg 7; whnf)) | ((with_reducible refine Side.id ?_); first | refine Side.auto ?_) | ((with_reducible refine Br.id ?_); first | (with_reducible first | refine br_true rfl ?_ | refine br_false rfl ?_)) | ((with_reducible refine SemWp.id ?_); first | refine sem_seq ?_ | refine sem_region rfl ?_ | refine sem_cond rfl ?_ | refine sem_exit ?_ | refine sem_ret ?_) | ((with_reducible refine qThen.id ?_); first | refine qThen.go ?_ | refine qThen.ret ?_) | refine Stp.valS ?_ | refine Stp.look ?_ | refine Stp.eff ?_ | ((with_reducible refine BodyR.id ?_); first | refine BodyR.ret ?_) | ((with_reducible refine ResG.id ?_); first | refine ResG.cell rfl ?_ | refine ResG.nil ?_) | ((with_reducible refine LoadIs.id ?_); first | refine LoadIs.agg (by repeat first | exact HGet.hit) rfl rfl rfl ?_) | ((with_reducible refine Upd.id ?_); first | (refine Upd.lit rfl ?_; (conv => whnf)))
    refine Fin.weak ?_
    have e := trim_eq hl (Nat.zero_le _) k2 (fun h => by omega)
    rw [List.take_zero] at e
    have v : vl l = 0 := by rw [← vl_nl (vl l), ← e]; rfl
    rw [v, nl_zero]
    exact Weaker.agg (.cons (Weaker.eq (by cases n <;> rfl)) rfl (.cons (Weaker.nil 1) rfl .nil))
  · have g1 : (l.map u32).getD ((k : Int) - 1).toNat default = .v (.int .u32 (l[k - 1]'(by omega) : Int)) := getD_u32 (n := k - 1) (by omega) (by omega)
    have hC := clone_spec (l.take k) (by simp; omega)
    have hcut : List.drop 0 (List.take ((k : Int)).toNat (l.map u32)) = (l.take k).map u32 := by simp
    repeat' first | refine Ops.tag rfl ?_ | ((with_reducible first | refine OpsT.yes ?_); (conv => arg 7; whnf)) | (refine OpsT.go ?_; (conv => arg 7; whnf)) | (with_reducible first | refine Stp.andT ?_) | ((with_reducible refine Stp.isSum ?_); refine Stp.sum ?_) | ((with_reducible refine Stp.isDec ?_); first | refine Stp.decT ?_) | ((with_reducible refine Stp.isEq ?_); first | refine Stp.eqF ?_) | refine Stp.pure rfl ?_ | ((with_reducible refine PutK.isSet ?_); refine PutK.set (by repeat first | exact HsetIs.hit) ?_) | refine PutK.mk' rfl ?_ | refine Ops.nil ?_ | ((with_reducible refine Look.id ?_); refine Look.auto ?_ (by repeat first | exact HGet.hit); try (conv => arg 7; whnf)) | ((with_reducible refine Side.id ?_); first | refine Side.auto ?_) | ((with_reducible refine Br.id ?_); first | (with_reducible first | refine br_false rfl ?_) | refine br_dec (fun _ => ?_) (fun _ => ?_)) | ((with_reducible refine SemWp.id ?_); first | refine sem_seq ?_ | refine sem_region rfl ?_ | refine sem_cond rfl ?_ | refine sem_block ?_ | refine sem_exit ?_ | refine sem_ret ?_ | refine sem_skip ?_) | ((with_reducible refine qThen.id ?_); first | refine qThen.go ?_) | ((with_reducible refine hinBlock.id ?_); first | refine hinBlock.go ?_) | ((with_reducible refine hround.id ?_); first | refine hround.go ?_) | refine Stp.valS ?_ | refine Stp.look ?_ | refine Stp.call ?_ | refine Stp.eff ?_ | ((with_reducible refine CallWp.id ?_); first | refine Pur.call (hC) ?_) | ((with_reducible refine BodyR.id ?_); first | refine BodyR.ret ?_) | ((with_reducible refine ResG.id ?_); first | refine ResG.cell rfl ?_ | refine ResG.nil ?_) | ((with_reducible refine LoadIs.id ?_); first | refine LoadIs.agg (by repeat first | exact HGet.hit) rfl rfl rfl ?_) | ((with_reducible refine Upd.id ?_); first | (refine Upd.lit rfl ?_; (conv => whnf))) | rw [g1] | rw [hcut]
    · rename_i hz
      have hz : l[k - 1]'(by omega) = 0 := by omega
      refine Fin.mk ⟨k - 1, ⟨by omega, fun j h1 h2 => ?_⟩, by omega, Sub.cons rfl rfl (Sub.cons rfl rfl (Sub.cons rfl rfl (Sub.cons rfl ?_ (Sub.nil _)))), Subp.refl _⟩
      · rcases Nat.eq_or_lt_of_le h2 with rfl | h2
        · exact hz
        · exact k2 j h1 (by omega)
      · show HV.v (.int .i64 _) = ii _
        rw [show ((k - 1 : Nat) : Int) = (k : Int) - 1 from by omega]; rfl
    · rename_i hz
      have e := trim_eq hl k1 k2 (fun h => by omega)
      refine Fin.weak ?_
      have v : vl l ≠ 0 := by
        intro v
        rw [v, nl_zero] at e
        have := congrArg List.length e
        simp at this
        rcases this with h | h
        · omega
        · subst h; simp at k1; omega
      rw [← e]
      exact Weaker.agg (.cons (Weaker.eq (by show bb n = bb _; rw [decide_eq_true v, Bool.and_true])) rfl (.cons (Weaker.refl _) rfl .nil))
end Go.Proofs.Hk

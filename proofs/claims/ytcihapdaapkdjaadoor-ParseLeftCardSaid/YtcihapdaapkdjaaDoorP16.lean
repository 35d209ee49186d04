import Derived.Test.YtcihapdaapkdjaaDoorP13
set_option linter.unusedSimpArgs false
set_option linter.unusedVariables false
namespace Go.Proofs.Hk
open Go Go.Proofs Lx

/-! Sums and differences. -/
def d1 (n : Nat) : ByteArray := ⟨#[UInt8.ofNat (48 + n)]⟩
def digS (n : Nat) : ByteArray := if n < 10 then d1 n else if n < 100 then d1 (n / 10) ++ d1 (n % 10) else (d1 (n / 100) ++ d1 (n / 10 % 10)) ++ d1 (n % 10)
def digL (n : Nat) : List UInt8 := if n < 10 then [UInt8.ofNat (48 + n)] else if n < 100 then [UInt8.ofNat (48 + n / 10), UInt8.ofNat (48 + n % 10)] else [UInt8.ofNat (48 + n / 100), UInt8.ofNat (48 + n / 10 % 10), UInt8.ofNat (48 + n % 10)]
theorem digS_L (n : Nat) : digS n = ⟨(digL n).toArray⟩ := by
  unfold digS digL
  split
  · rfl
  · split
    · apply ByteArray.ext
      simp [d1, ByteArray.data_append]
    · apply ByteArray.ext
      simp [d1, ByteArray.data_append]
def wtkB (k : Int) (w : ByteArray) : Bool := decide (0 < w.size) && byteAt w 0 != 35 && match nxt w 0 with
  | .tok t j => t.kind == k && (strEq t.text w && (t.pos == 0 && j == w.size))
  | _ => false
theorem wtkB_ok {k : Int} {w : ByteArray} (h : wtkB k w = true) : WTk k w := by
  unfold wtkB at h
  simp only [Bool.and_eq_true, decide_eq_true_eq, bne_iff_ne] at h
  obtain ⟨⟨h1, h2⟩, h3⟩ := h
  refine ⟨h1, ?_, h2⟩
  split at h3
  · rename_i t j e
    simp only [Bool.and_eq_true, beq_iff_eq] at h3
    obtain ⟨a, b, c, d⟩ := h3
    have b := strEq_eq.1 b
    rw [e]
    obtain ⟨tk0, tx, tp⟩ := t
    simp only at a b c
    rw [a, b, c, d]
  · cases h3
theorem dig_all : ∀ n, n < 256 → (wtkB 2 ⟨(digL n).toArray⟩ && (numS ⟨(digL n).toArray⟩ == (n : Int))) = true := by decide +kernel
theorem dig_wtk {n : Nat} (h : n < 256) : WTk 2 (digS n) ∧ numS (digS n) = n := by
  have := dig_all n h
  simp only [Bool.and_eq_true, beq_iff_eq] at this
  rw [digS_L]
  exact ⟨wtkB_ok this.1, this.2⟩
theorem dig_size (n : Nat) : (digS n).size ≤ 3 := by
  rw [digS_L]
  unfold digL
  split
  · simp [ByteArray.size]
  · split <;> simp [ByteArray.size]
def opS : Nat → ByteArray
  | 0 => ⟨#[43]⟩
  | _ => ⟨#[45]⟩
/-- What stands behind the first number. -/
def prs : List Nat → List (Nat × Nat)
  | a :: b :: r => (a % 2, b) :: prs r
  | _ => []
def pairP : List (Nat × Nat) → List Pc
  | [] => []
  | (k, n) :: r => (sp, 4, opS k) :: (sp, 2, digS n) :: pairP r
def sumE : Ex → List (Nat × Nat) → Ex
  | e, [] => e
  | e, (k, n) :: r => sumE (.bin (4 + (k : Int)) e (.num n)) r
def nd1 (n : Nat) : ND := ⟨1, n, noS, -1, -1⟩
def sumN : List ND → List (Nat × Nat) → List ND
  | l, [] => l
  | l, (k, n) :: r => sumN (l ++ [nd1 n] ++ [⟨4 + (k : Int), 0, noS, (l.length : Int) - 1, (l.length : Int)⟩]) r
theorem sum_flat : ∀ (r : List (Nat × Nat)) (e : Ex), (sumE e r).flat 0 = sumN (e.flat 0) r
  | [], e => rfl
  | (k, n) :: r, e => by
    rw [sumE, sum_flat r, sumN]
    congr 1
    simp only [Ex.flat, nd1, Nat.zero_add, List.length_singleton]
    congr 2
    simp only [ND.mk.injEq, true_and]
    omega
def sumP (n0 : Nat) (r : List (Nat × Nat)) : List Pc := head6 ++ ([(sp, 1, ⟨#[120]⟩), (sp, 4, ⟨#[61]⟩), (sp, 2, digS n0)] ++ (pairP r ++ [(sp, 4, ⟨#[59]⟩), (sp, 4, ⟨#[125]⟩)]))
theorem opS_wtk (k : Nat) : WTk 4 (opS k) := by
  cases k with
  | zero => exact wtk1 (by decide) (by kernel_rfl) (by decide)
  | succ k => exact wtk1 (w := ⟨#[45]⟩) (by decide) (by kernel_rfl) (by decide)
theorem pair_val : ∀ (r : List (Nat × Nat)), (∀ x ∈ r, x.2 < 256) → ∀ R, Val R → opensB R → Val (pairP r ++ R) ∧ opensB (pairP r ++ R)
  | [], _, R, v, o => ⟨v, o⟩
  | (k, n) :: r, h, R, v, o => by
    obtain ⟨h1, h2⟩ := pair_val r (fun x hx => h x (List.mem_cons_of_mem _ hx)) R v o
    exact ⟨⟨sp_gap, opS_wtk k, sp_first, sp_gap, (dig_wtk (h (k, n) List.mem_cons_self)).1, h2, h1⟩, sp_first⟩
theorem sum_val {n0 : Nat} {r : List (Nat × Nat)} (h0 : n0 < 256) (h : ∀ x ∈ r, x.2 < 256) : Val (sumP n0 r) := by
  obtain ⟨h1, h2⟩ := pair_val r h [(sp, 4, ⟨#[59]⟩), (sp, 4, ⟨#[125]⟩)] (end_val sp sp_gap) sp_first
  refine Val_app head6_val ?_ fun _ => sp_first
  exact ⟨sp_gap, wtk1 (by decide) (by kernel_rfl) (by decide), sp_first, sp_gap, wtk1 (by decide) (by kernel_rfl) (by decide), sp_first, sp_gap, (dig_wtk h0).1, h2, h1⟩
theorem pair_len : ∀ (r : List (Nat × Nat)), (pairP r).length = 2 * r.length
  | [] => rfl
  | (k, n) :: r => by simp only [pairP, List.length_cons, pair_len r]; omega
theorem pair_catL : ∀ (r : List (Nat × Nat)), catL (pairP r) ≤ 6 * r.length
  | [] => Nat.le_refl _
  | (k, n) :: r => by
    have := pair_catL r
    have d := dig_size n
    have o : (opS k).size = 1 := by cases k <;> rfl
    have s : sp.size = 1 := rfl
    simp only [pairP, catL, List.length_cons]
    omega
section
variable {l : List Tk}
theorem num_unary {d : Int} {i : Nat} {n : Nat} (h : n < 256) (hq : ∀ s, isT l i s = isP (sp, 2, digS n) s) (hk : (tk l i).kind = 2) (ht : (tk l i).text = digS n) : Ev fun f => pE l f .unary d i = okR (.num n) (i + 1) :=
  Ev.one fun f => by
    have e : ∀ s, isP (sp, 2, digS n) s = false := fun s => rfl
    simp only [pE, hq, e, Bool.false_eq_true, if_false, hk, if_true]
    rw [ht, (dig_wtk h).2]
structure OpN (l : List Tk) (i : Nat) (k n : Nat) : Prop where
  op : ∀ s, isT l i s = isP (sp, 4, opS k) s
  num : ∀ s, isT l (i + 1) s = isP (sp, 2, digS n) s
  kind : (tk l (i + 1)).kind = 2
  text : (tk l (i + 1)).text = digS n
theorem noOp_num {i n : Nat} (h : ∀ s, isT l i s = isP (sp, 4, opS n) s) : mulK l i = none := by
  cases n with
  | zero => simp only [mulK, h]; decide +kernel
  | succ n => simp only [mulK, h]; show (if isP (sp, 4, ⟨#[45]⟩) (tc 42) = true then some (6 : Int) else if isP (sp, 4, ⟨#[45]⟩) (tc 47) = true then some 7 else if isP (sp, 4, ⟨#[45]⟩) (tc 37) = true then some 8 else none) = none; decide +kernel
theorem add_num {i k : Nat} (hk : k < 2) (h : ∀ s, isT l i s = isP (sp, 4, opS k) s) : addK l i = some (4 + (k : Int)) := by
  match k, hk with
  | 0, _ => simp only [addK, h]; decide +kernel
  | 1, _ => simp only [addK, h]; decide +kernel
theorem up_term2 {d : Int} {i j : Nat} {e : Ex} (h : Ev fun f => pE l f .unary d i = okR e j) (n : mulK l j = none) : Ev fun f => pE l f .term d i = okR e j :=
  h.succ2 (q := fun f => pE l f (.termL e) d j = okR e j) (Ev.one fun f => by simp only [pE, n]) fun f h1 h2 => by
    simp only [pE]; rw [bind_ok h1]; exact h2
/-- Behind a number an operator, or the end. -/
theorem sum_loop : ∀ (r : List (Nat × Nat)) (e : Ex) (i : Nat), (∀ x ∈ r, x.1 < 2 ∧ x.2 < 256) → (∀ (j : Nat) (k n : Nat), r[j]? = some (k, n) → OpN l (i + 2 * j) k n) → (∀ s, isT l (i + 2 * r.length) s = isP (sp, 4, ⟨#[59]⟩) s) → (mulK l i = none) ∧ Ev fun f => pE l f (.exprL e) 0 i = okR (sumE e r) (i + 2 * r.length)
  | [], e, i, hr, ha, hz => by
    have n := noOp_of (l := l) (j := i) hz (by decide +kernel)
    exact ⟨n.mul, Ev.one fun f => by simp only [pE, n.add]; rfl⟩
  | (k, n) :: r, e, i, hr, ha, hz => by
    have h0 := ha 0 k n rfl
    have hr0 := hr (k, n) List.mem_cons_self
    simp only [Nat.mul_zero, Nat.add_zero] at h0
    obtain ⟨m1, h1⟩ := sum_loop r (.bin (4 + (k : Int)) e (.num n)) (i + 2) (fun x hx => hr x (List.mem_cons_of_mem _ hx)) (fun j k' n' hj => by rw [show i + 2 + 2 * j = i + 2 * (j + 1) from by omega]; exact ha (j + 1) k' n' (by simpa using hj)) (fun s => by rw [show i + 2 + 2 * r.length = i + 2 * ((k, n) :: r).length from by simp only [List.length_cons]; omega]; exact hz s)
    have hu := up_term2 (d := 0) (num_unary hr0.2 h0.num h0.kind h0.text) m1
    refine ⟨noOp_num h0.op, hu.succ2 h1 fun f g1 g2 => ?_⟩
    simp only [pE, add_num hr0.1 h0.op]
    rw [bind_ok g1, g2, sumE, show i + 2 + 2 * r.length = i + 2 * ((k, n) :: r).length from by simp only [List.length_cons]; omega]
end
theorem pair_at : ∀ (r : List (Nat × Nat)) (R : List Pc) (j k n : Nat), r[j]? = some (k, n) → (pairP r ++ R)[2 * j]? = some (sp, 4, opS k) ∧ (pairP r ++ R)[2 * j + 1]? = some (sp, 2, digS n)
  | [], R, j, k, n, h => by simp at h
  | (k', n') :: r, R, 0, k, n, h => by
    simp only [List.getElem?_cons_zero, Option.some.injEq, Prod.mk.injEq] at h
    obtain ⟨rfl, rfl⟩ := h
    exact ⟨rfl, rfl⟩
  | (k', n') :: r, R, j + 1, k, n, h => by
    obtain ⟨h1, h2⟩ := pair_at r R j k n (by simpa using h)
    rw [show 2 * (j + 1) = 2 * j + 1 + 1 from by omega, show 2 * j + 1 + 1 + 1 = (2 * j + 1) + 1 + 1 from rfl]
    exact ⟨by simp only [pairP, List.cons_append, List.getElem?_cons_succ]; exact h1, by simp only [pairP, List.cons_append, List.getElem?_cons_succ]; exact h2⟩
theorem sum_prog {n0 : Nat} {r : List (Nat × Nat)} (h0 : n0 < 256) (h : ∀ x ∈ r, x.1 < 2 ∧ x.2 < 256) (hl : r.length ≤ 100) : progR (cat (sumP n0 r)) = ([⟨⟨#[109]⟩, [], noS, [], [sdE 1 ⟨#[120]⟩ (sumN [nd1 n0] r)]⟩], 0, 0) := by
  have v := sum_val h0 (fun x hx => (h x hx).2)
  have hs : catL (sumP n0 r) ≤ 8192 := by
    have := pair_catL r
    have d := dig_size n0
    have s : sp.size = 1 := rfl
    unfold sumP
    simp only [catL_app, catL]
    rw [show catL head6 = 12 from by decide +kernel, show (⟨#[120]⟩ : ByteArray).size = 1 from rfl, show (⟨#[61]⟩ : ByteArray).size = 1 from rfl, show (⟨#[59]⟩ : ByteArray).size = 1 from rfl, show (⟨#[125]⟩ : ByteArray).size = 1 from rfl]
    omega
  have g : ∀ i, (sumP n0 r)[8 + i]? = (pairP r ++ [(sp, 4, ⟨#[59]⟩), (sp, 4, ⟨#[125]⟩)])[i]? := fun i => by
    unfold sumP
    rw [List.getElem?_append_right (by show 5 ≤ _; omega), List.getElem?_append_right (by show 3 ≤ _ - 5; omega)]
    congr 1
    show 8 + i - 5 - 3 = i
    omega
  have x5 : (sumP n0 r)[5]? = some (sp, 1, ⟨#[120]⟩) := rfl
  have x6 : (sumP n0 r)[6]? = some (sp, 4, ⟨#[61]⟩) := rfl
  have x7 : (sumP n0 r)[7]? = some (sp, 2, digS n0) := rfl
  have hd : Hd (lexOf (sumP n0 r)) := hd_of (q := (sp, 1, ⟨#[120]⟩)) rfl (by decide +kernel)
  have z0 : (sumP n0 r)[8 + 2 * r.length]? = some (sp, 4, ⟨#[59]⟩) := by
    rw [g, List.getElem?_append_right (by rw [pair_len]; omega), pair_len, Nat.sub_self]; rfl
  have z1 : (sumP n0 r)[8 + 2 * r.length + 1]? = some (sp, 4, ⟨#[125]⟩) := by
    rw [Nat.add_assoc, g, List.getElem?_append_right (by rw [pair_len]; omega), pair_len, show 2 * r.length + 1 - 2 * r.length = 1 from by omega]; rfl
  have len : (sumP n0 r).length = 8 + 2 * r.length + 2 := by
    unfold sumP
    simp only [List.length_append, pair_len, List.length_cons, List.length_nil]
    show 5 + _ = _
    omega
  obtain ⟨m, hE⟩ := sum_loop (l := lexOf (sumP n0 r)) r (.num n0) 8 h (fun j k n hj => by
    obtain ⟨a, b⟩ := pair_at r [(sp, 4, ⟨#[59]⟩), (sp, 4, ⟨#[125]⟩)] j k n hj
    rw [← g] at a b
    rw [← Nat.add_assoc] at b
    exact ⟨isT_at a, isT_at b, tk_kind b, by rw [lexOf_at b]⟩) (isT_at z0)
  have hu := up_term2 (d := 0) (num_unary (l := lexOf (sumP n0 r)) (i := 7) h0 (isT_at x7) (tk_kind x7) (by rw [lexOf_at x7])) m
  have he : Ev fun f => pE (lexOf (sumP n0 r)) f .expr 0 7 = okR (sumE (.num n0) r) (8 + 2 * r.length) := hu.succ2 hE fun f g1 g2 => by
    simp only [pE]; rw [bind_ok g1, g2]
  have st := stmt_set (i := 5) he (by rw [tk_kind x5]) (by rw [isT_at x6]; decide +kernel) (by rw [isT_at x6]; decide +kernel) (.inl (by rw [tk_kind x7]; show (2 : Int) ≠ 1; decide))
  rw [ended_fine _ (by rw [isT_at z0]; decide +kernel)] at st
  have ss := stmts_one st (by rw [isT_at x5]; decide +kernel) (by rw [isT_at z1]; decide +kernel)
  have fin := prog_okE hd ss (by rw [isT_at z1]; decide +kernel) (by rw [show 8 + 2 * r.length + 1 + 1 = (sumP n0 r).length from by omega]; exact lexOf_end _)
  rw [progR_ev v hs fin]
  have t1 : (tk (lexOf (sumP n0 r)) 1).text = ⟨#[109]⟩ := by rw [lexOf_at (q := (sp, 1, ⟨#[109]⟩)) rfl]
  have t5 : (tk (lexOf (sumP n0 r)) 5).text = ⟨#[120]⟩ := by rw [lexOf_at x5]
  rw [t1, t5, sum_flat]
  rfl
end Go.Proofs.Hk

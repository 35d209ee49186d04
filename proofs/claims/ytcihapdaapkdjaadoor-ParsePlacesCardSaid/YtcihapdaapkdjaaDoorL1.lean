import Derived.Test.YtcihapdaapkdjaaDoorCX
import Derived.Test.YtcihapdaapkdjaaDoorH20
set_option linter.unusedSimpArgs false
set_option linter.unusedVariables false
namespace Go.Proofs.Hk
open Go Go.Proofs

def blankZ (b : Int) : Bool := b == 32 || b == 9 || b == 10 || b == 13
def letterZ (b : Int) : Bool := decide (b ≥ 97) && decide (b ≤ 122)
def digitZ (b : Int) : Bool := decide (b ≥ 48) && decide (b ≤ 57)
def bb (b : Bool) : HV := .v (.bool b)
def ii (n : Int) : HV := .v (.int .i64 n)
def ss (s : ByteArray) : HV := .v (.string s)
def cc (n : Int) : HV := .v (.int .u8 n)

theorem blank_letter {b : Int} (h : blankZ b = true) : letterZ b = false ∧ digitZ b = false := by
  simp only [blankZ, letterZ, digitZ, Bool.or_eq_true, beq_iff_eq] at *
  rcases h with ((rfl | rfl) | rfl) | rfl <;> decide
theorem letter_digit {b : Int} (h : letterZ b = true) : digitZ b = false := by
  simp only [letterZ, digitZ, Bool.and_eq_true, decide_eq_true_eq] at *
  simp; omega

theorem sort_spec (b : Int) : Pur cx 18 [cc b] (.tup [bb (blankZ b), bb (letterZ b), bb (digitZ b)]) := by
  refine ⟨sem_calls cx (fn := Tryd.f18) rfl rfl rfl rfl ?_⟩
  repeat' first | ((with_reducible refine Ops.id ?_); first | (refine Ops.cons rfl ?_; (conv => arg 7; whnf)) | refine Ops.nil ?_) | ((with_reducible refine Stp.id ?_); first | refine Stp.pure rfl ?_ | refine Stp.val rfl ?_ | refine Stp.valC rfl ?_) | ((with_reducible refine Side.id ?_); first | refine Side.mk (fun h => h) ?_ | (refine Side.mk ?_ ?_; focus (((repeat' apply And.intro) <;> first | (simp; done)); done))) | ((with_reducible refine Br.id ?_); first | refine br_split (fun _ => ?_) (fun _ => ?_)) | ((with_reducible refine SemWp.id ?_); first | refine sem_seq ?_ | refine sem_region rfl ?_ | refine sem_cond rfl ?_ | refine sem_block ?_ | refine sem_ret ?_ | refine sem_skip ?_) | ((with_reducible refine qThen.id ?_); first | refine qThen.go ?_ | refine qThen.ret ?_) | ((with_reducible refine hinBlock.id ?_); first | refine hinBlock.go ?_ | refine hinBlock.ret ?_) | ((with_reducible refine bodyQ.id ?_); first | refine bodyQ.ret2 rfl ?_)
  all_goals refine Fin.mk ⟨?_, rfl⟩
  · rename_i h
    have h : blankZ b = true := h
    rw [h, (blank_letter h).1, (blank_letter h).2]; rfl
  · rename_i h1 h2
    have h1 : blankZ b = false := h1
    have h2 : letterZ b = true := h2
    rw [h1, h2, letter_digit h2]; rfl
  · rename_i h1 h2 h3
    have h1 : blankZ b = false := h1
    have h2 : letterZ b = false := h2
    have h3 : digitZ b = true := h3
    rw [h1, h2, h3]; rfl
  · rename_i h1 h2 h3
    have h1 : blankZ b = false := h1
    have h2 : letterZ b = false := h2
    have h3 : digitZ b = false := h3
    rw [h1, h2, h3]; rfl

def wordZ (b : Int) : Bool := letterZ b || digitZ b || b == 95
theorem word_spec (b : Int) : Pur cx 17 [cc b] (bb (wordZ b)) := by
  refine ⟨sem_calls cx (fn := Tryd.f17) rfl rfl rfl rfl ?_⟩
  repeat' first | ((with_reducible refine Ops.id ?_); first | (refine Ops.cons rfl ?_; (conv => arg 7; whnf)) | refine Ops.nil ?_) | ((with_reducible refine Stp.id ?_); first | refine Stp.pure rfl ?_ | refine Stp.val rfl ?_ | refine Stp.valC rfl ?_ | refine Stp.call ?_) | ((with_reducible refine PutK.id ?_); first | refine PutK.mk' rfl ?_) | ((with_reducible refine Side.id ?_); first | refine Side.mk rfl ?_ | refine Side.mk (fun h => h) ?_ | (refine Side.mk ?_ ?_; focus (((repeat' apply And.intro) <;> first | (simp; done)); done))) | ((with_reducible refine SemWp.id ?_); first | refine sem_seq ?_ | refine sem_region rfl ?_ | refine sem_ret ?_) | ((with_reducible refine CallWp.id ?_); first | refine Pur.call (sort_spec b) ?_) | ((with_reducible refine qThen.id ?_); first | refine qThen.go ?_) | ((with_reducible refine bodyQ.id ?_); first | refine bodyQ.ret rfl ?_)
  exact Fin.mk ⟨rfl, rfl⟩
theorem digit_spec (b : Int) : Pur cx 21 [cc b] (bb (digitZ b)) := by
  refine ⟨sem_calls cx (fn := Tryd.f21) rfl rfl rfl rfl ?_⟩
  repeat' first | ((with_reducible refine Ops.id ?_); first | (refine Ops.cons rfl ?_; (conv => arg 7; whnf)) | refine Ops.nil ?_) | ((with_reducible refine Stp.id ?_); first | refine Stp.pure rfl ?_ | refine Stp.call ?_) | ((with_reducible refine PutK.id ?_); first | refine PutK.mk' rfl ?_) | ((with_reducible refine Side.id ?_); first | refine Side.mk rfl ?_) | ((with_reducible refine SemWp.id ?_); first | refine sem_seq ?_ | refine sem_region rfl ?_ | refine sem_ret ?_) | ((with_reducible refine CallWp.id ?_); first | refine Pur.call (sort_spec b) ?_) | ((with_reducible refine qThen.id ?_); first | refine qThen.go ?_) | ((with_reducible refine bodyQ.id ?_); first | refine bodyQ.ret rfl ?_)
  exact Fin.mk ⟨rfl, rfl⟩
theorem line_spec (b : Int) : Pur cx 19 [cc b] (bb (b != 10)) := by
  refine ⟨sem_calls cx (fn := Tryd.f19) rfl rfl rfl rfl ?_⟩
  repeat' first | ((with_reducible refine Ops.id ?_); first | (refine Ops.cons rfl ?_; (conv => arg 7; whnf)) | refine Ops.nil ?_) | ((with_reducible refine Stp.id ?_); first | refine Stp.pure rfl ?_) | ((with_reducible refine SemWp.id ?_); first | refine sem_seq ?_ | refine sem_region rfl ?_ | refine sem_ret ?_) | ((with_reducible refine qThen.id ?_); first | refine qThen.go ?_) | ((with_reducible refine bodyQ.id ?_); first | refine bodyQ.ret rfl ?_)
  exact Fin.mk ⟨rfl, rfl⟩

def keyS (s : ByteArray) : Bool := strEq s ⟨#[112, 114, 111, 99]⟩ || strEq s ⟨#[118, 97, 114]⟩ || strEq s ⟨#[104, 97, 118, 111, 99]⟩ || strEq s ⟨#[97, 115, 115, 117, 109, 101]⟩ || strEq s ⟨#[97, 115, 115, 101, 114, 116]⟩ || strEq s ⟨#[105, 102]⟩ || strEq s ⟨#[101, 108, 115, 101]⟩ || strEq s ⟨#[119, 104, 105, 108, 101]⟩ || strEq s ⟨#[101, 105, 116, 104, 101, 114]⟩ || strEq s ⟨#[111, 114]⟩ || strEq s ⟨#[97, 110, 100]⟩ || strEq s ⟨#[110, 111, 116]⟩ || strEq s ⟨#[116, 114, 117, 101]⟩ || strEq s ⟨#[102, 97, 108, 115, 101]⟩ || strEq s ⟨#[115, 107, 105, 112]⟩
theorem key_spec (s : ByteArray) : Pur cx 20 [ss s] (bb (keyS s)) := by
  refine ⟨sem_calls cx (fn := Tryd.f20) rfl rfl rfl rfl ?_⟩
  repeat' first | ((with_reducible refine Ops.id ?_); first | (refine Ops.cons rfl ?_; (conv => arg 7; whnf)) | refine Ops.nil ?_) | ((with_reducible refine Stp.id ?_); first | refine Stp.pure rfl ?_) | ((with_reducible refine Br.id ?_); first | refine br_true (by with_reducible assumption) ?_ | refine br_split (fun _ => ?_) (fun _ => ?_)) | ((with_reducible refine SemWp.id ?_); first | refine sem_seq ?_ | refine sem_region rfl ?_ | refine sem_cond rfl ?_ | refine sem_block ?_ | refine sem_ret ?_ | refine sem_skip ?_) | ((with_reducible refine qThen.id ?_); first | refine qThen.go ?_ | refine qThen.ret ?_) | ((with_reducible refine hinBlock.id ?_); first | refine hinBlock.go ?_ | refine hinBlock.ret ?_) | ((with_reducible refine bodyQ.id ?_); first | refine bodyQ.ret rfl ?_)
  all_goals refine Fin.mk ⟨?_, rfl⟩
  all_goals simp [keyS, bb, *]

def twoS (s : ByteArray) : Bool := strEq s ⟨#[61, 61]⟩ || strEq s ⟨#[33, 61]⟩ || strEq s ⟨#[60, 61]⟩ || strEq s ⟨#[62, 61]⟩ || strEq s ⟨#[45, 62]⟩
def oneZ (b : Int) : Bool := b == 40 || b == 41 || b == 123 || b == 125 || b == 91 || b == 93 || b == 44 || b == 59 || b == 61 || b == 60 || b == 62 || b == 43 || b == 45 || b == 42 || b == 47 || b == 37
/-- How many bytes of a text, not empty, are a sign. -/
def signS (s : ByteArray) : Nat := if 1 < s.size ∧ twoS (s.extract 0 2) = true then 2 else if oneZ (byteAt s 0) = true then 1 else 0
theorem sign_spec (s : ByteArray) (h0 : 0 < s.size) : Pur cx 23 [ss s] (ii (signS s)) := by
  refine ⟨sem_calls cx (fn := Tryd.f23) rfl rfl rfl rfl ?_⟩
  repeat' first | ((with_reducible refine Ops.id ?_); first | (refine Ops.cons rfl ?_; (conv => arg 7; whnf)) | refine Ops.nil ?_) | ((with_reducible refine Stp.id ?_); first | refine Stp.pure rfl ?_ | refine Stp.val rfl ?_) | ((with_reducible refine Side.id ?_); first | (refine Side.mk ?_ ?_; focus (((repeat' apply And.intro) <;> first | exact True.intro | omega); done))) | ((with_reducible refine Br.id ?_); first | refine br_true (by with_reducible assumption) ?_ | refine br_dec_t (by with_reducible assumption) ?_ | refine br_dec (fun _ => ?_) (fun _ => ?_) | refine br_split (fun _ => ?_) (fun _ => ?_)) | ((with_reducible refine SemWp.id ?_); first | refine sem_seq ?_ | refine sem_region rfl ?_ | refine sem_cond rfl ?_ | refine sem_block ?_ | refine sem_ret ?_ | refine sem_skip ?_) | ((with_reducible refine qThen.id ?_); first | refine qThen.go ?_ | refine qThen.ret ?_) | ((with_reducible refine hinBlock.id ?_); first | refine hinBlock.go ?_ | refine hinBlock.ret ?_) | ((with_reducible refine bodyQ.id ?_); first | refine bodyQ.ret rfl ?_)
  all_goals refine Fin.mk ⟨?_, rfl⟩
  all_goals (try simp only [show Int.toNat 2 = 2 from rfl] at *)
  all_goals first
    | (have h1 : 1 < s.size := by omega
       simp [signS, twoS, oneZ, ii, h1, *]; done)
    | (have h1 : ¬ 1 < s.size := by omega
       simp [signS, twoS, oneZ, ii, h1, *]; done)

/-- What a number is refused for. -/
def numberS (s : ByteArray) (more : Bool) : Int := if s.size > 9 then 2 else if (decide (s.size > 1) && byteAt s 0 == 48 || more) = true then 3 else 0
theorem number_spec (s : ByteArray) (more : Bool) : Pur cx 22 [ss s, bb more] (ii (numberS s more)) := by
  refine ⟨sem_calls cx (fn := Tryd.f22) rfl rfl rfl rfl ?_⟩
  repeat' first | ((with_reducible refine Ops.id ?_); first | (refine Ops.cons rfl ?_; (conv => arg 7; whnf)) | refine Ops.nil ?_) | ((with_reducible refine Stp.id ?_); first | refine Stp.pure rfl ?_ | refine Stp.val rfl ?_ | refine Stp.valC rfl ?_) | ((with_reducible refine Side.id ?_); first | refine Side.mk (fun h => h) ?_ | (refine Side.mk ?_ ?_; focus (((repeat' apply And.intro) <;> first | (simp; omega)); done))) | ((with_reducible refine Br.id ?_); first | refine br_true (by with_reducible assumption) ?_ | refine br_dec (fun _ => ?_) (fun _ => ?_) | refine br_split (fun _ => ?_) (fun _ => ?_)) | ((with_reducible refine SemWp.id ?_); first | refine sem_seq ?_ | refine sem_region rfl ?_ | refine sem_cond rfl ?_ | refine sem_block ?_ | refine sem_ret ?_ | refine sem_skip ?_) | ((with_reducible refine qThen.id ?_); first | refine qThen.go ?_ | refine qThen.ret ?_) | ((with_reducible refine hinBlock.id ?_); first | refine hinBlock.go ?_ | refine hinBlock.ret ?_) | ((with_reducible refine bodyQ.id ?_); first | refine bodyQ.ret rfl ?_)
  all_goals refine Fin.mk ⟨?_, rfl⟩
  all_goals unfold numberS
  · rw [if_pos (by omega)]; rfl
  · rename_i h0 h2
    have h2 : (decide (s.size > 1) && byteAt s 0 == 48) = true := by
      rw [← h2]; congr 1
      exact decide_eq_decide.2 (by omega)
    rw [if_neg (by omega), if_pos (by rw [h2, Bool.true_or])]; rfl
  · rename_i h0 h2 h3
    have h3 : more = true := h3
    rw [if_neg (by omega), if_pos (by rw [h3, Bool.or_true])]; rfl
  · rename_i h0 h2 h3
    have h3 : more = false := h3
    have h2 : (decide (s.size > 1) && byteAt s 0 == 48) = false := by
      rw [← h2]; congr 1
      exact decide_eq_decide.2 (by omega)
    rw [if_neg (by omega), if_neg (by rw [h2, h3]; simp)]; rfl

end Go.Proofs.Hk

set_option linter.unusedSimpArgs false
set_option linter.unusedVariables false
namespace Go.Proofs.Hk
open Go Go.Proofs

/-- As far as bytes are of a sort. -/
def scan (p : Int → Bool) (s : ByteArray) (i : Nat) : Nat :=
  if h : i < s.size then (if p (byteAt s i) = true then scan p s (i + 1) else i) else i
termination_by s.size - i
theorem scan_ge (p : Int → Bool) (s : ByteArray) (i : Nat) : i ≤ scan p s i := by
  unfold scan
  split
  · split
    · have := scan_ge p s (i + 1); omega
    · exact Nat.le_refl _
  · exact Nat.le_refl _
termination_by s.size - i
theorem scan_le (p : Int → Bool) (s : ByteArray) (i : Nat) (h : i ≤ s.size) : scan p s i ≤ s.size := by
  unfold scan
  split
  · split
    · exact scan_le p s (i + 1) (by omega)
    · exact h
  · exact h
termination_by s.size - i
theorem scan_yes {p : Int → Bool} {s : ByteArray} {i : Nat} (h : i < s.size) (hp : p (byteAt s i) = true) : scan p s (i + 1) = scan p s i := by
  conv => rhs; unfold scan
  rw [dif_pos h, if_pos hp]
theorem scan_no {p : Int → Bool} {s : ByteArray} {i : Nat} (hp : p (byteAt s i) = false) : scan p s i = i := by
  unfold scan
  split
  · rw [if_neg (by rw [hp]; simp)]
  · rfl
theorem scan_end {p : Int → Bool} {s : ByteArray} {i : Nat} (h : ¬ i < s.size) : scan p s i = i := by
  unfold scan
  rw [dif_neg h]

theorem run_spec (p : Int → Bool) (k : Nat) (hk : cx.fn k = true) (hp : ∀ x, Pur cx k [cc x] (bb (p x))) (a b : Nat) (s : ByteArray) (hs : s.size ≤ 8192) (i : Nat) (hi : i ≤ s.size) (hab : a ≠ b) :
    HCalls cx.P 16 [.fn (.func k) [] [], .ptr a 0, .ptr b 0] [(a, .cells [ii i] 3), (b, .cells [ss s] 9)] fun e st =>
      e = .ret (ss (s.extract i (scan p s i))) ∧ st = [(a, .cells [ii (scan p s i)] 3), (b, .cells [ss s] 9)] := by
  refine sem_calls cx (fn := Tryd.f16) rfl rfl rfl rfl ?_
  repeat' first | ((with_reducible refine Ops.id ?_); first | (refine Ops.cons rfl ?_; (conv => arg 7; whnf)) | refine Ops.nil ?_) | ((with_reducible refine Stp.id ?_); first | refine Stp.pure rfl ?_ | refine Stp.val rfl ?_ | refine Stp.valC rfl ?_ | refine Stp.call ?_ | refine Stp.callC ?_ | refine Stp.look ?_ | refine Stp.eff ?_ | refine Stp.effC ?_ | refine Stp.pan ?_ | refine Stp.panC ?_) | ((with_reducible refine PutK.id ?_); first | (refine PutK.set HsetIs.hit ?_) | (refine PutK.set (HsetIs.miss ?_ HsetIs.hit) ?_; (focus omega)) | (refine PutK.set (HsetIs.miss ?_ (HsetIs.miss ?_ HsetIs.hit)) ?_; (focus omega); (focus omega)) | (refine PutK.set (HsetIs.miss ?_ (HsetIs.miss ?_ (HsetIs.miss ?_ HsetIs.hit))) ?_; (focus omega); (focus omega); (focus omega)) | (refine PutK.set (HsetIs.miss ?_ (HsetIs.miss ?_ (HsetIs.miss ?_ (HsetIs.miss ?_ HsetIs.hit)))) ?_; (focus omega); (focus omega); (focus omega); (focus omega)) | (refine PutK.set (HsetIs.miss ?_ (HsetIs.miss ?_ (HsetIs.miss ?_ (HsetIs.miss ?_ (HsetIs.miss ?_ HsetIs.hit))))) ?_; (focus omega); (focus omega); (focus omega); (focus omega); (focus omega)) | (refine PutK.set (HsetIs.miss ?_ (HsetIs.miss ?_ (HsetIs.miss ?_ (HsetIs.miss ?_ (HsetIs.miss ?_ (HsetIs.miss ?_ HsetIs.hit)))))) ?_; (focus omega); (focus omega); (focus omega); (focus omega); (focus omega); (focus omega)) | refine PutK.mk' rfl ?_) | ((with_reducible refine Upd.id ?_); (refine Upd.lit rfl ?_; (conv => whnf))) | ((with_reducible refine Grow2.id ?_); refine Grow2.own ?_) | ((with_reducible refine Side.id ?_); first | refine Side.mk True.intro ?_ | refine Side.mk rfl ?_ | refine Side.mk (fun h => h) ?_ | (refine Side.mk ?_ ?_; focus (intro hside; rw [hside]; done)) | (refine Side.mk ?_ ?_; focus (((repeat' apply And.intro) <;> first | exact True.intro | assumption | rfl | omega | (simp; done) | (simp; omega) | (simp only [Bool.and_eq_true, Bool.or_eq_true, Bool.not_eq_true', decide_eq_true_eq, decide_eq_false_iff_not, beq_iff_eq, ne_eq, beq_eq_false_iff_ne, Bool.and_eq_false_iff, Bool.or_eq_false_iff] at *; omega) | (simp +contextual; done)); done)) | (refine Side.mk ?_ ?_; focus (intro hside; ((repeat' apply And.intro) <;> first | exact True.intro | assumption | rfl | omega | (simp; done) | (simp; omega) | (simp only [Bool.and_eq_true, Bool.or_eq_true, Bool.not_eq_true', decide_eq_true_eq, decide_eq_false_iff_not, beq_iff_eq, ne_eq, beq_eq_false_iff_ne, Bool.and_eq_false_iff, Bool.or_eq_false_iff] at *; omega) | (simp +contextual; done)); done))) | ((with_reducible refine Br.id ?_); first | refine br_true rfl ?_ | refine br_false rfl ?_ | refine br_true (by with_reducible assumption) ?_ | refine br_false (by with_reducible assumption) ?_ | refine br_dec_t (by with_reducible assumption) ?_ | refine br_dec_f (by with_reducible assumption) ?_ | refine br_beq_t (by with_reducible assumption) ?_ | refine br_beq_f (by with_reducible assumption) ?_ | refine br_bne_t (by with_reducible assumption) ?_ | refine br_bne_f (by with_reducible assumption) ?_ | refine br_dec (fun _ => ?_) (fun _ => ?_) | refine br_beq (fun _ => ?_) (fun _ => ?_) | refine br_bne (fun _ => ?_) (fun _ => ?_) | refine br_split (fun _ => ?_) (fun _ => ?_)) | ((with_reducible refine Look.id ?_); first | (refine Look.hit ?_; try (conv => arg 7; whnf)) | refine Look.miss (by omega) ?_) | ((with_reducible refine SemWp.id ?_); first | refine sem_seq ?_ | refine sem_region rfl ?_ | refine sem_cond rfl ?_ | refine sem_block ?_ | refine sem_exit ?_ | refine sem_ret ?_ | refine sem_skip ?_ | refine sem_label ?_ | refine sem_draw ?_) | ((with_reducible refine CallC.id ?_); first | refine CallC.two ?_) | ((with_reducible refine qThen.id ?_); first | refine qThen.go ?_ | refine qThen.ret ?_ | refine qThen.exit ?_ | refine qThen.pan ?_) | ((with_reducible refine hinBlock.id ?_); first | refine hinBlock.go ?_ | refine hinBlock.ret ?_ | refine hinBlock.pan ?_ | refine hinBlock.here rfl ?_ | refine hinBlock.on rfl ?_) | ((with_reducible refine hround.id ?_); first | refine hround.go ?_ | refine hround.ret ?_ | refine hround.exit ?_ | refine hround.pan ?_) | ((with_reducible refine bodyQ.id ?_); first | refine bodyQ.ret rfl ?_ | refine bodyQ.ret2 rfl ?_ | refine bodyQ.ret0 rfl ?_ | refine bodyQ.go ?_ | refine bodyQ.pan ?_) | (refine drawQ cx (by decide +kernel) ?_; (conv => whnf)) | ((conv => whnf); first | ((with_reducible refine Side.id ?_); first | refine Side.mk True.intro ?_ | refine Side.mk rfl ?_ | refine Side.mk (fun h => h) ?_ | (refine Side.mk ?_ ?_; focus (intro hside; rw [hside]; done)) | (refine Side.mk ?_ ?_; focus (((repeat' apply And.intro) <;> first | exact True.intro | assumption | rfl | omega | (simp; done) | (simp; omega) | (simp only [Bool.and_eq_true, Bool.or_eq_true, Bool.not_eq_true', decide_eq_true_eq, decide_eq_false_iff_not, beq_iff_eq, ne_eq, beq_eq_false_iff_ne, Bool.and_eq_false_iff, Bool.or_eq_false_iff] at *; omega) | (simp +contextual; done)); done)) | (refine Side.mk ?_ ?_; focus (intro hside; ((repeat' apply And.intro) <;> first | exact True.intro | assumption | rfl | omega | (simp; done) | (simp; omega) | (simp only [Bool.and_eq_true, Bool.or_eq_true, Bool.not_eq_true', decide_eq_true_eq, decide_eq_false_iff_not, beq_iff_eq, ne_eq, beq_eq_false_iff_ne, Bool.and_eq_false_iff, Bool.or_eq_false_iff] at *; omega) | (simp +contextual; done)); done))) | ((with_reducible refine Look.id ?_); first | (refine Look.hit ?_; try (conv => arg 7; whnf)) | refine Look.miss (by omega) ?_) | ((with_reducible refine SemWp.id ?_); first | refine sem_seq ?_ | refine sem_region rfl ?_ | refine sem_cond rfl ?_ | refine sem_block ?_ | refine sem_exit ?_ | refine sem_ret ?_ | refine sem_skip ?_ | refine sem_label ?_ | refine sem_draw ?_)) | fail
  refine sem_loop cx (ι := Nat) (fun j => i ≤ j ∧ j ≤ s.size ∧ scan p s j = scan p s i)
    (fun j => [(0, .sure, .fn (.func k) [] []), (1, .sure, .ptr a 0), (2, .sure, .ptr b 0), (5, .sure, ii i)])
    (fun j => [(a, .cells [ii j] 3), (b, .cells [ss s] 9)]) (fun j => s.size - j) i ⟨Nat.le_refl _, hi, rfl⟩ ?_ ?_ ?_
  · exact Sub.cons rfl rfl (Sub.cons rfl rfl (Sub.cons rfl rfl (Sub.cons rfl rfl (Sub.nil _))))
  · exact Subp.refl _
  rintro j ⟨h1, h2, h3⟩
  repeat' first | ((with_reducible refine Ops.id ?_); first | (refine Ops.cons rfl ?_; (conv => arg 7; whnf)) | refine Ops.nil ?_) | ((with_reducible refine Stp.id ?_); first | refine Stp.pure rfl ?_ | refine Stp.val rfl ?_ | refine Stp.valC rfl ?_ | refine Stp.call ?_ | refine Stp.callC ?_ | refine Stp.look ?_ | refine Stp.eff ?_ | refine Stp.effC ?_ | refine Stp.pan ?_ | refine Stp.panC ?_) | ((with_reducible refine PutK.id ?_); first | (refine PutK.set HsetIs.hit ?_) | (refine PutK.set (HsetIs.miss ?_ HsetIs.hit) ?_; (focus omega)) | (refine PutK.set (HsetIs.miss ?_ (HsetIs.miss ?_ HsetIs.hit)) ?_; (focus omega); (focus omega)) | (refine PutK.set (HsetIs.miss ?_ (HsetIs.miss ?_ (HsetIs.miss ?_ HsetIs.hit))) ?_; (focus omega); (focus omega); (focus omega)) | (refine PutK.set (HsetIs.miss ?_ (HsetIs.miss ?_ (HsetIs.miss ?_ (HsetIs.miss ?_ HsetIs.hit)))) ?_; (focus omega); (focus omega); (focus omega); (focus omega)) | (refine PutK.set (HsetIs.miss ?_ (HsetIs.miss ?_ (HsetIs.miss ?_ (HsetIs.miss ?_ (HsetIs.miss ?_ HsetIs.hit))))) ?_; (focus omega); (focus omega); (focus omega); (focus omega); (focus omega)) | (refine PutK.set (HsetIs.miss ?_ (HsetIs.miss ?_ (HsetIs.miss ?_ (HsetIs.miss ?_ (HsetIs.miss ?_ (HsetIs.miss ?_ HsetIs.hit)))))) ?_; (focus omega); (focus omega); (focus omega); (focus omega); (focus omega); (focus omega)) | refine PutK.mk' rfl ?_) | ((with_reducible refine Upd.id ?_); (refine Upd.lit rfl ?_; (conv => whnf))) | ((with_reducible refine Grow2.id ?_); refine Grow2.own ?_) | ((with_reducible refine Side.id ?_); first | refine Side.mk True.intro ?_ | refine Side.mk rfl ?_ | refine Side.mk (fun h => h) ?_ | refine Side.mk hk ?_ | (refine Side.mk ?_ ?_; focus (intro hside; rw [hside]; done)) | (refine Side.mk ?_ ?_; focus (((repeat' apply And.intro) <;> first | exact True.intro | assumption | rfl | omega | (simp; done) | (simp; omega) | (simp only [Bool.and_eq_true, Bool.or_eq_true, Bool.not_eq_true', decide_eq_true_eq, decide_eq_false_iff_not, beq_iff_eq, ne_eq, beq_eq_false_iff_ne, Bool.and_eq_false_iff, Bool.or_eq_false_iff] at *; omega) | (simp +contextual; done)); done)) | (refine Side.mk ?_ ?_; focus (intro hside; ((repeat' apply And.intro) <;> first | exact True.intro | assumption | rfl | omega | (simp; done) | (simp; omega) | (simp only [Bool.and_eq_true, Bool.or_eq_true, Bool.not_eq_true', decide_eq_true_eq, decide_eq_false_iff_not, beq_iff_eq, ne_eq, beq_eq_false_iff_ne, Bool.and_eq_false_iff, Bool.or_eq_false_iff] at *; omega) | (simp +contextual; done)); done))) | ((with_reducible refine Br.id ?_); first | refine br_true rfl ?_ | refine br_false rfl ?_ | refine br_true (by with_reducible assumption) ?_ | refine br_false (by with_reducible assumption) ?_ | refine br_dec_t (by with_reducible assumption) ?_ | refine br_dec_f (by with_reducible assumption) ?_ | refine br_beq_t (by with_reducible assumption) ?_ | refine br_beq_f (by with_reducible assumption) ?_ | refine br_bne_t (by with_reducible assumption) ?_ | refine br_bne_f (by with_reducible assumption) ?_ | refine br_dec (fun _ => ?_) (fun _ => ?_) | refine br_beq (fun _ => ?_) (fun _ => ?_) | refine br_bne (fun _ => ?_) (fun _ => ?_) | refine br_split (fun _ => ?_) (fun _ => ?_)) | ((with_reducible refine Look.id ?_); first | (refine Look.hit ?_; try (conv => arg 7; whnf)) | refine Look.miss (by omega) ?_) | ((with_reducible refine SemWp.id ?_); first | refine sem_seq ?_ | refine sem_region rfl ?_ | refine sem_cond rfl ?_ | refine sem_block ?_ | refine sem_exit ?_ | refine sem_ret ?_ | refine sem_skip ?_ | refine sem_label ?_ | refine sem_draw ?_) | ((with_reducible refine CallWp.id ?_); first | refine Pur.call (hp _) ?_) | ((with_reducible refine QAsk.id ?_); first | (refine Pur.ask (hp _) ?_ ?_; focus (intro h; first | exact True.intro | exact h | exact rfl | exact ⟨h, rfl⟩ | exact ⟨h, h, rfl⟩ | exact hk | exact ⟨h, hk⟩ | exact ⟨h, h, hk⟩ | (simp +contextual at h ⊢; done); done))) | ((with_reducible refine CallC.id ?_); first | (refine Pur.askC (hp _) ?_ ?_; focus (intro h; first | exact True.intro | exact h | exact rfl | exact ⟨h, rfl⟩ | exact ⟨h, h, rfl⟩ | exact hk | exact ⟨h, hk⟩ | exact ⟨h, h, hk⟩ | (simp +contextual at h ⊢; done); done)) | refine CallC.two ?_) | ((with_reducible refine qThen.id ?_); first | refine qThen.go ?_ | refine qThen.ret ?_ | refine qThen.exit ?_ | refine qThen.pan ?_) | ((with_reducible refine hinBlock.id ?_); first | refine hinBlock.go ?_ | refine hinBlock.ret ?_ | refine hinBlock.pan ?_ | refine hinBlock.here rfl ?_ | refine hinBlock.on rfl ?_) | ((with_reducible refine hround.id ?_); first | refine hround.go ?_ | refine hround.ret ?_ | refine hround.exit ?_ | refine hround.pan ?_) | ((with_reducible refine bodyQ.id ?_); first | refine bodyQ.ret rfl ?_ | refine bodyQ.ret2 rfl ?_ | refine bodyQ.ret0 rfl ?_ | refine bodyQ.go ?_ | refine bodyQ.pan ?_) | (refine drawQ cx (by decide +kernel) ?_; (conv => whnf)) | ((conv => whnf); first | ((with_reducible refine Side.id ?_); first | refine Side.mk True.intro ?_ | refine Side.mk rfl ?_ | refine Side.mk (fun h => h) ?_ | refine Side.mk hk ?_ | (refine Side.mk ?_ ?_; focus (intro hside; rw [hside]; done)) | (refine Side.mk ?_ ?_; focus (((repeat' apply And.intro) <;> first | exact True.intro | assumption | rfl | omega | (simp; done) | (simp; omega) | (simp only [Bool.and_eq_true, Bool.or_eq_true, Bool.not_eq_true', decide_eq_true_eq, decide_eq_false_iff_not, beq_iff_eq, ne_eq, beq_eq_false_iff_ne, Bool.and_eq_false_iff, Bool.or_eq_false_iff] at *; omega) | (simp +contextual; done)); done)) | (refine Side.mk ?_ ?_; focus (intro hside; ((repeat' apply And.intro) <;> first | exact True.intro | assumption | rfl | omega | (simp; done) | (simp; omega) | (simp only [Bool.and_eq_true, Bool.or_eq_true, Bool.not_eq_true', decide_eq_true_eq, decide_eq_false_iff_not, beq_iff_eq, ne_eq, beq_eq_false_iff_ne, Bool.and_eq_false_iff, Bool.or_eq_false_iff] at *; omega) | (simp +contextual; done)); done))) | ((with_reducible refine Look.id ?_); first | (refine Look.hit ?_; try (conv => arg 7; whnf)) | refine Look.miss (by omega) ?_) | ((with_reducible refine QAsk.id ?_); first | (refine Pur.ask (hp _) ?_ ?_; focus (intro h; first | exact True.intro | exact h | exact rfl | exact ⟨h, rfl⟩ | exact ⟨h, h, rfl⟩ | exact hk | exact ⟨h, hk⟩ | exact ⟨h, h, hk⟩ | (simp +contextual at h ⊢; done); done))) | ((with_reducible refine SemWp.id ?_); first | refine sem_seq ?_ | refine sem_region rfl ?_ | refine sem_cond rfl ?_ | refine sem_block ?_ | refine sem_exit ?_ | refine sem_ret ?_ | refine sem_skip ?_ | refine sem_label ?_ | refine sem_draw ?_)) | fail
  · rename_i h5
    simp only [Bool.and_eq_true, decide_eq_true_eq] at h5
    refine Fin.mk ⟨j + 1, ⟨by omega, by omega, ?_⟩, by omega, Sub.cons rfl rfl (Sub.cons rfl rfl (Sub.cons rfl rfl (Sub.cons rfl rfl (Sub.nil _)))), Subp.of_eq ?_⟩
    · rw [scan_yes (by omega) h5.2, h3]
    · show [(a, Res.cells [.v (.int .i64 (IntKind.i64.wrap ((j : Int) + 1)))] 3), (b, Res.cells [ss s] 9)] = _
      rw [wrap64 (by omega)]; rfl
  · rename_i h5
    have e : scan p s i = j := by
      rw [← h3]
      by_cases hz : j < s.size
      · exact scan_no (by simpa [hz] using h5)
      · exact scan_end hz
    refine Fin.mk ⟨?_, ?_⟩
    · rw [e]; rfl
    · rw [e]

end Go.Proofs.Hk

set_option linter.unusedSimpArgs false
set_option linter.unusedVariables false
namespace Go.Proofs.Hk
open Go Go.Proofs

/-! What the tokens of a text are. -/
structure Tk where
  kind : Int
  text : ByteArray
  pos : Nat
def tokD (t : Tk) : HV := .agg [ii t.kind, ss t.text, ii t.pos]
inductive Nxt where
  | skip (j : Nat)
  | tok (t : Tk) (j : Nat)
  | err (e : Int)
def nxt (s : ByteArray) (i : Nat) : Nxt :=
  if blankZ (byteAt s i) = true then .skip (i + 1)
  else if byteAt s i = 35 then .skip (scan (fun b => b != 10) s i)
  else if letterZ (byteAt s i) = true then
    if (s.extract i (scan wordZ s i)).size > 16 then .err 2 else .tok ⟨if keyS (s.extract i (scan wordZ s i)) = true then 3 else 1, s.extract i (scan wordZ s i), i⟩ (scan wordZ s i)
  else if digitZ (byteAt s i) = true then
    if numberS (s.extract i (scan digitZ s i)) (decide (scan digitZ s i < s.size) && wordZ (byteAt s (scan digitZ s i))) ≠ 0 then .err (numberS (s.extract i (scan digitZ s i)) (decide (scan digitZ s i < s.size) && wordZ (byteAt s (scan digitZ s i))))
    else .tok ⟨2, s.extract i (scan digitZ s i), i⟩ (scan digitZ s i)
  else if signS (s.extract i s.size) = 0 then .err 3
  else .tok ⟨4, s.extract i (i + signS (s.extract i s.size)), i⟩ (i + signS (s.extract i s.size))
/-- The tokens from a place on, or the error and its place. -/
def lexL (s : ByteArray) (i : Nat) : Except (Int × Nat) (List Tk) :=
  if h : i < s.size then
    match nxt s i with
    | .skip j => lexL s (max (i + 1) j)
    | .tok t j => match lexL s (max (i + 1) j) with
      | .ok l => .ok (t :: l)
      | .error e => .error e
    | .err e => .error (e, i)
  else .ok [⟨0, ⟨#[]⟩, s.size⟩]
termination_by s.size - i
def comb (pre : List Tk) : Except (Int × Nat) (List Tk) → Except (Int × Nat) (List Tk)
  | .ok l => .ok (pre ++ l)
  | .error e => .error e
def lexV (r : Except (Int × Nat) (List Tk)) : HV :=
  match r with
  | .ok l => .tup [.list .no 3 (l.map tokD), ii 0, ii 0]
  | .error (e, at_) => .tup [.list .no 3 [], ii e, ii at_]
def lexR (s : ByteArray) : Except (Int × Nat) (List Tk) := if s.size > 8192 then .error (2, 8192) else lexL s 0

theorem lexL_end {s : ByteArray} {i : Nat} (h : ¬ i < s.size) : lexL s i = .ok [⟨0, ⟨#[]⟩, s.size⟩] := by
  unfold lexL
  rw [dif_neg h]
theorem lexL_skip {s : ByteArray} {i j : Nat} (h : i < s.size) (hj : i < j) (hn : nxt s i = .skip j) : lexL s i = lexL s j := by
  conv => lhs; unfold lexL
  rw [dif_pos h, hn]
  simp only []
  rw [show max (i + 1) j = j from by omega]
theorem lexL_tok {s : ByteArray} {i j : Nat} {t : Tk} (h : i < s.size) (hj : i < j) (hn : nxt s i = .tok t j) (pre : List Tk) : comb (pre ++ [t]) (lexL s j) = comb pre (lexL s i) := by
  conv => rhs; unfold lexL
  rw [dif_pos h, hn]
  simp only []
  rw [show max (i + 1) j = j from by omega]
  cases lexL s j <;> simp [comb]
theorem lexL_err {s : ByteArray} {i : Nat} {e : Int} (h : i < s.size) (hn : nxt s i = .err e) : lexL s i = .error (e, i) := by
  unfold lexL
  rw [dif_pos h, hn]

theorem nxt_blank {s : ByteArray} {j : Nat} (h : blankZ (byteAt s j) = true) : nxt s j = .skip (j + 1) := by simp [nxt, h]
theorem nxt_line {s : ByteArray} {j : Nat} (h0 : blankZ (byteAt s j) = false) (h : byteAt s j = 35) : nxt s j = .skip (scan (fun b => b != 10) s j) := by
  unfold nxt; rw [if_neg (by rw [h0]; simp), if_pos h]
theorem nxt_longE {s : ByteArray} {j : Nat} (h0 : blankZ (byteAt s j) = false) (h : ¬ byteAt s j = 35) (hl : letterZ (byteAt s j) = true) (hz : (s.extract j (scan wordZ s j)).size > 16) : nxt s j = .err 2 := by
  unfold nxt; rw [if_neg (by rw [h0]; simp), if_neg h, if_pos hl, if_pos hz]
theorem nxt_word {s : ByteArray} {j : Nat} (h0 : blankZ (byteAt s j) = false) (h : ¬ byteAt s j = 35) (hl : letterZ (byteAt s j) = true) (hz : ¬ (s.extract j (scan wordZ s j)).size > 16) : nxt s j = .tok ⟨if keyS (s.extract j (scan wordZ s j)) = true then 3 else 1, s.extract j (scan wordZ s j), j⟩ (scan wordZ s j) := by
  unfold nxt; rw [if_neg (by rw [h0]; simp), if_neg h, if_pos hl, if_neg hz]
theorem nxt_numE {s : ByteArray} {j : Nat} (h0 : blankZ (byteAt s j) = false) (h : ¬ byteAt s j = 35) (hl : letterZ (byteAt s j) = false) (hd : digitZ (byteAt s j) = true) {m : Bool} (hm : m = (decide (scan digitZ s j < s.size) && wordZ (byteAt s (scan digitZ s j)))) (hz : ¬ numberS (s.extract j (scan digitZ s j)) m = 0) : nxt s j = .err (numberS (s.extract j (scan digitZ s j)) m) := by
  subst hm
  unfold nxt; rw [if_neg (by rw [h0]; simp), if_neg h, if_neg (by rw [hl]; simp), if_pos hd, if_pos hz]
theorem nxt_num {s : ByteArray} {j : Nat} (h0 : blankZ (byteAt s j) = false) (h : ¬ byteAt s j = 35) (hl : letterZ (byteAt s j) = false) (hd : digitZ (byteAt s j) = true) {m : Bool} (hm : m = (decide (scan digitZ s j < s.size) && wordZ (byteAt s (scan digitZ s j)))) (hz : numberS (s.extract j (scan digitZ s j)) m = 0) : nxt s j = .tok ⟨2, s.extract j (scan digitZ s j), j⟩ (scan digitZ s j) := by
  subst hm
  unfold nxt; rw [if_neg (by rw [h0]; simp), if_neg h, if_neg (by rw [hl]; simp), if_pos hd, if_neg (by simp [hz])]
theorem nxt_signE {s : ByteArray} {j : Nat} (h0 : blankZ (byteAt s j) = false) (h : ¬ byteAt s j = 35) (hl : letterZ (byteAt s j) = false) (hd : digitZ (byteAt s j) = false) (hz : signS (s.extract j s.size) = 0) : nxt s j = .err 3 := by
  unfold nxt; rw [if_neg (by rw [h0]; simp), if_neg h, if_neg (by rw [hl]; simp), if_neg (by rw [hd]; simp), if_pos hz]
theorem nxt_sign {s : ByteArray} {j : Nat} (h0 : blankZ (byteAt s j) = false) (h : ¬ byteAt s j = 35) (hl : letterZ (byteAt s j) = false) (hd : digitZ (byteAt s j) = false) (hz : ¬ signS (s.extract j s.size) = 0) : nxt s j = .tok ⟨4, s.extract j (j + signS (s.extract j s.size)), j⟩ (j + signS (s.extract j s.size)) := by
  unfold nxt; rw [if_neg (by rw [h0]; simp), if_neg h, if_neg (by rw [hl]; simp), if_neg (by rw [hd]; simp), if_neg hz]
theorem scan_lt {p : Int → Bool} {s : ByteArray} {i : Nat} (h : i < s.size) (hp : p (byteAt s i) = true) : i < scan p s i := by
  rw [← scan_yes h hp]
  have := scan_ge p s (i + 1); omega
theorem Subp.rot {x y z t t' : Nat × Res} (ht : t' = t) : Subp [t', x, y] [x, y, z, t] := by
  subst ht
  exact ⟨[t', x, y, z], (List.perm_append_comm : ([t'] ++ [x, y, z]).Perm ([x, y, z] ++ [t'])), List.sublist_append_left [t', x, y] [z]⟩
theorem signS_le (s : ByteArray) (h : 0 < s.size) : signS s ≤ s.size := by
  unfold signS
  split
  · rename_i h; omega
  · split <;> omega
theorem sign_side {s : ByteArray} {j : Nat} (h : j < s.size) (hs : s.size ≤ 8192) : 0 ≤ (j : Int) ∧ 0 ≤ IntKind.i64.wrap ((j : Int) + signS (s.extract (j : Int).toNat s.size)) ∧ (j : Int).toNat ≤ (IntKind.i64.wrap ((j : Int) + signS (s.extract (j : Int).toNat s.size))).toNat ∧ (IntKind.i64.wrap ((j : Int) + signS (s.extract (j : Int).toNat s.size))).toNat ≤ s.size := by
  have := signS_le (s.extract (j : Int).toNat s.size) (by simp; omega)
  simp at this
  simp only [Int.toNat_natCast]
  rw [wrap64 (by omega)]
  omega
theorem lex_err {s : ByteArray} {j : Nat} {e : Int} {pre : List Tk} (h : j < s.size) (hn : nxt s j = .err e) (h3 : comb pre (lexL s j) = lexL s 0) : ∃ l e0 at_, HEnd.ret (HV.tup [HV.v (Value.slice none 0 0), HV.v (.int .i64 e), ii j]) = .ret (.tup [l, ii e0, ii at_]) ∧ ∃ l', Weaker l l' ∧ lexV (lexL s 0) = .tup [l', ii e0, ii at_] := by
  refine ⟨_, _, _, rfl, _, Weaker.nil 3, ?_⟩
  rw [← h3, lexL_err h hn]; rfl

set_option maxHeartbeats 4000000 in
theorem Lex_spec (s : ByteArray) : Pur cx 9 [ss s] (lexV (lexR s)) := by
  refine ⟨HCalls.weaken (sem_calls cx (fn := Tryd.f9) rfl rfl rfl rfl (R := fun e st => ∃ l e0 at_, e = .ret (.tup [l, ii e0, ii at_]) ∧ ∃ l', Weaker l l' ∧ lexV (lexR s) = .tup [l', ii e0, ii at_]) ?_) ?_⟩
  · repeat' first | ((with_reducible refine Ops.id ?_); first | (refine Ops.cons rfl ?_; (conv => arg 7; whnf))) | ((with_reducible refine Stp.id ?_); first | refine Stp.eff ?_) | ((with_reducible refine SemWp.id ?_); first | refine sem_seq ?_ | refine sem_region rfl ?_)
    intro b _
    repeat' first | ((with_reducible refine Ops.id ?_); first | (refine Ops.cons rfl ?_; (conv => arg 7; whnf)) | refine Ops.nil ?_) | ((with_reducible refine Stp.id ?_); first | refine Stp.pure rfl ?_ | refine Stp.val rfl ?_ | refine Stp.look ?_ | refine Stp.eff ?_) | ((with_reducible refine PutK.id ?_); first | refine PutK.mk' rfl ?_) | ((with_reducible refine Side.id ?_); first | refine Side.mk rfl ?_) | ((with_reducible refine Br.id ?_); first | refine br_dec (fun _ => ?_) (fun _ => ?_)) | ((with_reducible refine Look.id ?_); first | (refine Look.hit ?_; try (conv => arg 7; whnf))) | ((with_reducible refine SemWp.id ?_); first | refine sem_seq ?_ | refine sem_region rfl ?_ | refine sem_cond rfl ?_ | refine sem_ret ?_ | refine sem_skip ?_) | ((with_reducible refine qThen.id ?_); first | refine qThen.go ?_ | refine qThen.ret ?_) | ((with_reducible refine bodyQ.id ?_); first | refine bodyQ.ret2 rfl ?_)
    · rename_i h
      refine Fin.mk ⟨_, _, _, rfl, _, Weaker.nil 3, ?_⟩
      have h : s.size > 8192 := by omega
      unfold lexR
      rw [if_pos h]; rfl
    · rename_i h
      intro a hab
      simp only [keys, List.map_cons, List.map_nil, List.mem_cons, List.not_mem_nil, not_or, or_false, not_false_eq_true] at hab
      repeat' first | ((with_reducible refine Ops.id ?_); first | (refine Ops.cons rfl ?_; (conv => arg 7; whnf)) | refine Ops.nil ?_) | ((with_reducible refine Stp.id ?_); first | refine Stp.pure rfl ?_ | refine Stp.look ?_ | refine Stp.eff ?_) | ((with_reducible refine PutK.id ?_); first | (refine PutK.set HsetIs.hit ?_) | refine PutK.mk' rfl ?_) | ((with_reducible refine Upd.id ?_); (refine Upd.lit rfl ?_; (conv => whnf))) | ((with_reducible refine Look.id ?_); first | (refine Look.hit ?_; try (conv => arg 7; whnf))) | ((with_reducible refine SemWp.id ?_); first | refine sem_seq ?_ | refine sem_region rfl ?_ | refine sem_block ?_) | ((with_reducible refine qThen.id ?_); first | refine qThen.go ?_)
      have hs : s.size ≤ 8192 := by omega
      have hR : lexR s = lexL s 0 := by unfold lexR; rw [if_neg (by omega)]
      rw [hR]
      refine sem_nil_own cx 5 3 rfl ?_
      intro r hr
      simp only [keys, List.map_cons, List.map_nil, List.mem_cons, List.not_mem_nil, not_or, or_false, not_false_eq_true] at hr
      refine sem_loop cx (ι := Nat × List Tk) (fun i => i.1 ≤ s.size ∧ i.2.length ≤ i.1 ∧ comb i.2 (lexL s i.1) = lexL s 0)
        (fun i => [(1, .sure, .ptr b 0), (6, .sure, .ptr a 0), (7, .sure, .fn (.func 16) [] [.ptr a 0, .ptr b 0]), (8, .sure, .fn (.func 17) [] []), (5, .sure, .list (.own r 0) 3 (i.2.map tokD))])
        (fun i => [(r, .tok i.2.length), (a, .cells [ii i.1] 3), (b, .cells [ss s] 9)]) (fun i => s.size - i.1) (0, []) ⟨Nat.zero_le _, Nat.le_refl _, ?_⟩ ?_ ?_ ?_
      · cases lexL s 0 <;> rfl
      · exact Sub.cons rfl rfl (Sub.cons rfl rfl (Sub.cons rfl rfl (Sub.cons rfl rfl (Sub.cons rfl rfl (Sub.nil _)))))
      · exact Subp.refl _
      rintro ⟨j, pre⟩ ⟨h1, h2, h3⟩
      simp only [] at h1 h2 h3
      dsimp only
      repeat' first | ((with_reducible refine Ops.id ?_); first | (refine Ops.cons rfl ?_; (conv => arg 7; whnf)) | refine Ops.nil ?_) | ((with_reducible refine Stp.id ?_); first | refine Stp.pure rfl ?_ | refine Stp.val rfl ?_ | refine Stp.call ?_ | refine Stp.look ?_ | refine Stp.eff ?_) | ((with_reducible refine PutK.id ?_); first | (refine PutK.set HsetIs.hit ?_) | refine PutK.mk' rfl ?_) | ((with_reducible refine Side.id ?_); first | refine Side.mk rfl ?_ | (refine Side.mk ?_ ?_; focus (((repeat' apply And.intro) <;> first | assumption | omega | (simp; done) | (simp; omega)); done))) | ((with_reducible refine Br.id ?_); first | refine br_dec (fun _ => ?_) (fun _ => ?_)) | ((with_reducible refine Look.id ?_); first | (refine Look.hit ?_; try (conv => arg 7; whnf)) | refine Look.miss (by omega) ?_) | ((with_reducible refine SemWp.id ?_); first | refine sem_seq ?_ | refine sem_region rfl ?_ | refine sem_cond rfl ?_ | refine sem_block ?_ | refine sem_exit ?_ | refine sem_ret ?_ | refine sem_skip ?_) | ((with_reducible refine CallWp.id ?_); first | refine Pur.call (sort_spec _) ?_) | ((with_reducible refine qThen.id ?_); first | refine qThen.go ?_) | ((with_reducible refine bodyQ.id ?_); first | refine bodyQ.ret2 rfl ?_)
      intro tt htt
      simp only [keys, List.map_cons, List.map_nil, List.mem_cons, List.not_mem_nil, not_or, or_false, not_false_eq_true] at htt
      repeat' first | ((with_reducible refine Ops.id ?_); first | (refine Ops.cons rfl ?_; (conv => arg 7; whnf)) | refine Ops.nil ?_) | ((with_reducible refine Stp.id ?_); first | refine Stp.pure rfl ?_ | refine Stp.val rfl ?_ | refine Stp.call ?_ | refine Stp.look ?_ | refine Stp.eff ?_) | ((with_reducible refine PutK.id ?_); first | (refine PutK.set HsetIs.hit ?_) | (refine PutK.set (HsetIs.miss ?_ HsetIs.hit) ?_; (focus omega)) | (refine PutK.set (HsetIs.miss ?_ (HsetIs.miss ?_ HsetIs.hit)) ?_; (focus omega); (focus omega)) | (refine PutK.set (HsetIs.miss ?_ (HsetIs.miss ?_ (HsetIs.miss ?_ HsetIs.hit))) ?_; (focus omega); (focus omega); (focus omega)) | refine PutK.mk' rfl ?_) | ((with_reducible refine Upd.id ?_); (refine Upd.lit rfl ?_; (conv => whnf))) | ((with_reducible refine Side.id ?_); first | refine Side.mk rfl ?_ | refine Side.mk (sign_side (by omega) hs) ?_ | (refine Side.mk ?_ ?_; focus (((repeat' apply And.intro) <;> first | exact True.intro | assumption | omega | (simp; done) | (simp; omega)); done))) | ((with_reducible refine Br.id ?_); first | refine br_dec (fun _ => ?_) (fun _ => ?_) | refine br_bne (fun _ => ?_) (fun _ => ?_) | refine br_split (fun _ => ?_) (fun _ => ?_)) | ((with_reducible refine Look.id ?_); first | (refine Look.hit ?_; try (conv => arg 7; whnf)) | refine Look.miss (by omega) ?_) | ((with_reducible refine SemWp.id ?_); first | refine sem_seq ?_ | refine sem_region rfl ?_ | refine sem_cond rfl ?_ | refine sem_block ?_ | refine sem_exit ?_ | refine sem_ret ?_ | refine sem_skip ?_ | refine sem_draw ?_) | ((with_reducible refine CallWp.id ?_); first | (refine call_ret cx [_, _] (run_spec wordZ _ rfl word_spec _ _ _ hs _ (by omega) hab) (List.Perm.refl _) ?_; (conv => whnf)) | (refine call_ret cx [_, _] (run_spec digitZ _ rfl digit_spec _ _ _ hs _ (by omega) hab) (List.Perm.refl _) ?_; (conv => whnf)) | (refine call_ret cx [_, _] (run_spec (fun b => b != 10) _ rfl line_spec _ _ _ hs _ (by omega) hab) (List.Perm.refl _) ?_; (conv => whnf)) | refine Pur.call (key_spec _) ?_ | refine Pur.call (sign_spec _ (by simp; omega)) ?_) | ((with_reducible refine qThen.id ?_); first | refine qThen.go ?_ | refine qThen.ret ?_ | refine qThen.exit ?_) | ((with_reducible refine hinBlock.id ?_); first | refine hinBlock.go ?_ | refine hinBlock.ret ?_ | refine hinBlock.here rfl ?_ | refine hinBlock.on rfl ?_) | ((with_reducible refine hround.id ?_); first | refine hround.go ?_ | refine hround.ret ?_) | ((with_reducible refine bodyQ.id ?_); first | refine bodyQ.ret2 rfl ?_) | (refine drawQ cx (by decide +kernel) ?_; (conv => whnf)) | ((conv => whnf); first | ((with_reducible refine Side.id ?_); first | refine Side.mk rfl ?_ | refine Side.mk (fun h => h) ?_ | (refine Side.mk ?_ ?_; focus (((repeat' apply And.intro) <;> first | (simp; done)); done)) | (refine Side.mk ?_ ?_; focus (intro hside; ((repeat' apply And.intro) <;> first | rfl); done))) | ((with_reducible refine Look.id ?_); first | (refine Look.hit ?_; try (conv => arg 7; whnf)) | refine Look.miss (by omega) ?_) | ((with_reducible refine QAsk.id ?_); first | (refine Pur.ask (number_spec _ _) ?_ ?_; focus (intro h; first | exact rfl)) | (refine Pur.ask (word_spec _) ?_ ?_; focus (intro h; first | exact ⟨h, h, rfl⟩))) | ((with_reducible refine SemWp.id ?_); first | refine sem_seq ?_ | refine sem_ret ?_))
      · rename_i hj hb
        exact Fin.mk ⟨(j + 1, pre), ⟨by simp only []; omega, by simp only []; omega, by rw [← h3, lexL_skip (by omega) (by omega) (nxt_blank hb)]⟩, by simp only []; omega, Sub.cons rfl rfl (Sub.cons rfl rfl (Sub.cons rfl rfl (Sub.cons rfl rfl (Sub.cons rfl rfl (Sub.nil _))))), Subp.skip (Subp.of_eq (by rw [wrap64 (by omega)]; rfl)) _⟩
      · rename_i hj h0 hb
        have g1 := scan_lt (p := fun b => b != 10) (s := s) (i := j) (by omega) (by rw [hb]; rfl)
        have g2 := scan_le (fun b => b != 10) s j (by omega)
        exact Fin.mk ⟨(scan (fun b => b != 10) s j, pre), ⟨g2, by simp only []; omega, by rw [← h3, lexL_skip (by omega) g1 (nxt_line h0 hb)]⟩, by simp only []; omega, Sub.cons rfl rfl (Sub.cons rfl rfl (Sub.cons rfl rfl (Sub.cons rfl rfl (Sub.cons rfl rfl (Sub.nil _))))), Subp.rot rfl⟩
      · rename_i hj h0 hb hl hk hz
        exact Fin.mk (lex_err (by omega) (nxt_longE h0 hb hl (by omega)) h3)
      · rename_i hj h0 hb hl hk hz
        have g1 := scan_lt (p := wordZ) (s := s) (i := j) (by omega) (by simp [wordZ, hl])
        have g2 := scan_le wordZ s j (by omega)
        refine Fin.mk ⟨(scan wordZ s j, pre ++ [⟨3, s.extract j (scan wordZ s j), j⟩]), ⟨g2, by simp; omega, ?_⟩, by simp only []; omega, Sub.cons rfl rfl (Sub.cons rfl rfl (Sub.cons rfl rfl (Sub.cons rfl rfl (Sub.cons rfl (by simp [tokD, ii, ss]) (Sub.nil _))))), Subp.rot (by simp)⟩
        exact (lexL_tok (by omega) g1 (by rw [nxt_word h0 hb hl (by omega), hk]; rfl) pre).trans h3
      · rename_i hj h0 hb hl hk hz
        exact Fin.mk (lex_err (by omega) (nxt_longE h0 hb hl (by omega)) h3)
      · rename_i hj h0 hb hl hk hz
        have g1 := scan_lt (p := wordZ) (s := s) (i := j) (by omega) (by simp [wordZ, hl])
        have g2 := scan_le wordZ s j (by omega)
        refine Fin.mk ⟨(scan wordZ s j, pre ++ [⟨1, s.extract j (scan wordZ s j), j⟩]), ⟨g2, by simp; omega, ?_⟩, by simp only []; omega, Sub.cons rfl rfl (Sub.cons rfl rfl (Sub.cons rfl rfl (Sub.cons rfl rfl (Sub.cons rfl (by simp [tokD, ii, ss]) (Sub.nil _))))), Subp.rot (by simp)⟩
        exact (lexL_tok (by omega) g1 (by rw [nxt_word h0 hb hl (by omega), hk]; rfl) pre).trans h3
      · rename_i hj h0 hb hl hd hz
        exact Fin.mk (lex_err (by omega) (nxt_numE h0 hb hl hd (by simp) hz) h3)
      · rename_i hj h0 hb hl hd hz
        have g1 := scan_lt (p := digitZ) (s := s) (i := j) (by omega) hd
        have g2 := scan_le digitZ s j (by omega)
        refine Fin.mk ⟨(scan digitZ s j, pre ++ [⟨2, s.extract j (scan digitZ s j), j⟩]), ⟨g2, by simp; omega, ?_⟩, by simp only []; omega, Sub.cons rfl rfl (Sub.cons rfl rfl (Sub.cons rfl rfl (Sub.cons rfl rfl (Sub.cons rfl (by simp [tokD, ii, ss]) (Sub.nil _))))), Subp.rot (by simp)⟩
        exact (lexL_tok (by omega) g1 (nxt_num h0 hb hl hd (by simp) hz) pre).trans h3
      · rename_i hj h0 hb hl hd hz
        exact Fin.mk (lex_err (by omega) (nxt_signE h0 hb hl hd (by simpa using hz)) h3)
      · rename_i hj h0 hb hl hd hz
        have hz : ¬ signS (s.extract j s.size) = 0 := by simpa using hz
        have g1 := signS_le (s.extract j s.size) (by simp; omega)
        simp only [ByteArray.size_extract, Nat.min_self] at g1
        have e : IntKind.i64.wrap ((j : Int) + signS (s.extract (j : Int).toNat s.size)) = ((j + signS (s.extract j s.size) : Nat) : Int) := by
          rw [Int.toNat_natCast, wrap64 (by omega)]; omega
        have e2 : IntKind.i64.wrap ((j : Int) + (signS (s.extract j s.size) : Int)) = (j : Int) + signS (s.extract j s.size) := wrap64 (by omega)
        have e1 : ((j : Int) + (signS (s.extract j s.size) : Int)).toNat = j + signS (s.extract j s.size) := by omega
        refine Fin.mk ⟨(j + signS (s.extract j s.size), pre ++ [⟨4, s.extract j (j + signS (s.extract j s.size)), j⟩]), ⟨by simp only []; omega, by simp; omega, ?_⟩, by simp only []; omega, Sub.cons rfl rfl (Sub.cons rfl rfl (Sub.cons rfl rfl (Sub.cons rfl rfl (Sub.cons rfl (by simp [tokD, ii, ss, e1, e2]) (Sub.nil _))))), Subp.skip (Subp.of_eq (by simp [ii, e2])) _⟩
        exact (lexL_tok (by omega) (by omega) (nxt_sign h0 hb hl hd hz) pre).trans h3
      · rename_i hj
        refine Fin.mk ⟨_, _, _, rfl, _, Weaker.tok _ _ _, ?_⟩
        rw [← h3, lexL_end (by omega)]
        simp only [comb, lexV, List.map_append]; rfl
  · rintro e s1 ⟨l, e0, at_, rfl, l', hw, h⟩
    exact ⟨_, [], .ret (.tup (.cons hw (.cons (.refl _) (.cons (.refl _) .nil)))), Subp.nil _, by rw [h], rfl⟩

end Go.Proofs.Hk

set_option linter.unusedSimpArgs false
set_option linter.unusedVariables false
namespace Go.Proofs.Hk
open Go Go.Proofs

/-! The parser, in plain Lean. -/
structure ND where
  kind : Int
  num : Int
  name : ByteArray
  a : Int
  b : Int
def encN' (k n : Int) (s : ByteArray) (a b : Int) : HV := .agg [ii k, ii n, ss s, ii a, ii b]
def encN (n : ND) : HV := encN' n.kind n.num n.name n.a n.b
def LNs (l : List ND) : HV := .list .no 5 (l.map encN)
def LLNs (l : List (List ND)) : HV := .list .no 1 (l.map LNs)
inductive Ex where
  | num (n : Int)
  | var (s : ByteArray)
  | leaf (k : Int)
  | un (k : Int) (e : Ex)
  | bin (k : Int) (a b : Ex)
def noS : ByteArray := ⟨#[]⟩
/-- The nodes of an expression that stand behind so many others. -/
def Ex.flat : Nat → Ex → List ND
  | _, .num n => [⟨1, n, noS, -1, -1⟩]
  | _, .var s => [⟨2, 0, s, -1, -1⟩]
  | _, .leaf k => [⟨k, 0, noS, -1, -1⟩]
  | o, .un k e => e.flat o ++ [⟨k, 0, noS, (o + (e.flat o).length : Nat) - 1, -1⟩]
  | o, .bin k a b => a.flat o ++ b.flat (o + (a.flat o).length) ++ [⟨k, 0, noS, (o + (a.flat o).length : Nat) - 1, (o + (a.flat o).length + (b.flat (o + (a.flat o).length)).length : Nat) - 1⟩]
inductive SD where
  | mk (kind : Int) (name proc : ByteArray) (e : List ND) (args : List (List ND)) (body els : List SD)
def encS7 (k : Int) (n p : ByteArray) (e : List ND) (a : List (List ND)) (b el : List HV) : HV := .agg [ii k, ss n, ss p, LNs e, LLNs a, .list .no 7 b, .list .no 7 el]
mutual
def encSD : SD → HV
  | .mk k n p e a b el => encS7 k n p e a (encSDs b) (encSDs el)
def encSDs : List SD → List HV
  | [] => []
  | s :: l => encSD s :: encSDs l
end
theorem encSDs_map : ∀ l : List SD, encSDs l = l.map encSD
  | [] => by simp [encSDs]
  | s :: l => by simp [encSDs, encSDs_map l]
def LSDs (l : List SD) : HV := .list .no 7 (l.map encSD)
structure PD where
  name : ByteArray
  params : List ByteArray
  result : ByteArray
  vars : List ByteArray
  body : List SD
def LSs' (l : List ByteArray) : HV := .list .no 1 (l.map ss)
def encPD' (n : ByteArray) (p : List ByteArray) (r : ByteArray) (v : List ByteArray) (b : List SD) : HV := .agg [ss n, LSs' p, ss r, LSs' v, LSDs b]
def encPD (p : PD) : HV := encPD' p.name p.params p.result p.vars p.body
def LPDs (l : List PD) : HV := .list .no 5 (l.map encPD)

/-- What a parser comes to: out of fuel; an error, the token at which, and how deep; something, and the token behind. -/
abbrev Res' (α : Type) := Option (Except (Int × Nat × Int) (α × Nat))
def errR {α : Type} (e : Int) (i : Nat) (d : Int) : Res' α := some (.error (e, i, d))
def okR {α : Type} (x : α) (i : Nat) : Res' α := some (.ok (x, i))
def bindR {α β : Type} (r : Res' α) (k : α → Nat → Res' β) : Res' β :=
  match r with
  | none => none
  | some (.error e) => some (.error e)
  | some (.ok (x, i)) => k x i
def tk (l : List Tk) (i : Nat) : Tk := l.getD i ⟨0, noS, 0⟩
def isT (l : List Tk) (i : Nat) (s : ByteArray) : Bool := ((tk l i).kind == 4 || (tk l i).kind == 3) && strEq (tk l i).text s
def tOr : ByteArray := ⟨#[111, 114]⟩
def tAnd : ByteArray := ⟨#[97, 110, 100]⟩
def tNot : ByteArray := ⟨#[110, 111, 116]⟩
def tTrue : ByteArray := ⟨#[116, 114, 117, 101]⟩
def tFalse : ByteArray := ⟨#[102, 97, 108, 115, 101]⟩
def tc (n : UInt8) : ByteArray := ⟨#[n]⟩
def tEq : ByteArray := ⟨#[61, 61]⟩
def tNe : ByteArray := ⟨#[33, 61]⟩
def tLe : ByteArray := ⟨#[60, 61]⟩
def tGe : ByteArray := ⟨#[62, 61]⟩
def addK (l : List Tk) (i : Nat) : Option Int := if isT l i (tc 43) = true then some 4 else if isT l i (tc 45) = true then some 5 else none
def mulK (l : List Tk) (i : Nat) : Option Int := if isT l i (tc 42) = true then some 6 else if isT l i (tc 47) = true then some 7 else if isT l i (tc 37) = true then some 8 else none
def orK (l : List Tk) (i : Nat) : Option Int := if isT l i tOr = true then some 20 else none
def andK (l : List Tk) (i : Nat) : Option Int := if isT l i tAnd = true then some 19 else none
def relK (l : List Tk) (i : Nat) : Option Int :=
  if isT l i tEq = true then some 12 else if isT l i tNe = true then some 13 else if isT l i (tc 60) = true then some 14 else if isT l i tLe = true then some 15 else if isT l i (tc 62) = true then some 16 else if isT l i tGe = true then some 17 else none
/-- The number that digits are. -/
def numS (s : ByteArray) : Int := s.data.toList.foldl (fun n b => 10 * n + ((b.toNat : Int) - 48)) 0
inductive Lv where
  | cond | conj | lit | expr | term | unary
  | condL (e : Ex) | conjL (e : Ex) | exprL (e : Ex) | termL (e : Ex)
def pE (l : List Tk) : Nat → Lv → Int → Nat → Res' Ex
  | 0, _, _, _ => none
  | f + 1, .cond, d, i => bindR (pE l f .conj d i) fun e j => pE l f (.condL e) d j
  | f + 1, .condL e, d, i => match orK l i with
    | some k => bindR (pE l f .conj d (i + 1)) fun e2 j => pE l f (.condL (.bin k e e2)) d j
    | none => okR e i
  | f + 1, .conj, d, i => bindR (pE l f .lit d i) fun e j => pE l f (.conjL e) d j
  | f + 1, .conjL e, d, i => match andK l i with
    | some k => bindR (pE l f .lit d (i + 1)) fun e2 j => pE l f (.conjL (.bin k e e2)) d j
    | none => okR e i
  | f + 1, .expr, d, i => bindR (pE l f .term d i) fun e j => pE l f (.exprL e) d j
  | f + 1, .exprL e, d, i => match addK l i with
    | some k => bindR (pE l f .term d (i + 1)) fun e2 j => pE l f (.exprL (.bin k e e2)) d j
    | none => okR e i
  | f + 1, .term, d, i => bindR (pE l f .unary d i) fun e j => pE l f (.termL e) d j
  | f + 1, .termL e, d, i => match mulK l i with
    | some k => bindR (pE l f .unary d (i + 1)) fun e2 j => pE l f (.termL (.bin k e e2)) d j
    | none => okR e i
  | f + 1, .lit, d, i =>
    if isT l i tNot = true then (if 50 ≤ d then errR 5 i d else bindR (pE l f .lit (d + 1) (i + 1)) fun e j => okR (.un 18 e) j)
    else if isT l i (tc 91) = true then (if 50 ≤ d then errR 5 i d else bindR (pE l f .cond (d + 1) (i + 1)) fun e j => if isT l j (tc 93) = true then okR e (j + 1) else errR 4 j (d + 1))
    else if isT l i tTrue = true then okR (.leaf 9) (i + 1)
    else if isT l i tFalse = true then okR (.leaf 10) (i + 1)
    else if isT l i (tc 42) = true then okR (.leaf 11) (i + 1)
    else bindR (pE l f .expr d i) fun a j => match relK l j with
      | some k => bindR (pE l f .expr d (j + 1)) fun b m => okR (.bin k a b) m
      | none => errR 4 j d
  | f + 1, .unary, d, i =>
    if isT l i (tc 45) = true then (if 50 ≤ d then errR 5 i d else bindR (pE l f .unary (d + 1) (i + 1)) fun e j => okR (.un 3 e) j)
    else if isT l i (tc 40) = true then (if 50 ≤ d then errR 5 i d else bindR (pE l f .expr (d + 1) (i + 1)) fun e j => if isT l j (tc 41) = true then okR e (j + 1) else errR 4 j (d + 1))
    else if (tk l i).kind = 2 then okR (.num (numS (tk l i).text)) (i + 1)
    else if (tk l i).kind = 1 then okR (.var (tk l i).text) (i + 1)
    else errR 4 i d
/-- A name, and a sign. -/
def pName (l : List Tk) (d : Int) (i : Nat) : Res' ByteArray := if (tk l i).kind = 1 then okR (tk l i).text (i + 1) else errR 4 i d
def pMust (l : List Tk) (s : ByteArray) (d : Int) (i : Nat) : Res' Unit := if isT l i s = true then okR () (i + 1) else errR 4 i d
/-- Arguments, names: from the first on, up to the bracket. -/
def pArgs (l : List Tk) : Nat → List (List ND) → Int → Nat → Res' (List (List ND))
  | 0, _, _, _ => none
  | f + 1, acc, d, i => bindR (pE l f .expr d i) fun e j => if isT l j (tc 44) = true then pArgs l f (acc ++ [e.flat 0]) d (j + 1) else if isT l j (tc 41) = true then okR (acc ++ [e.flat 0]) (j + 1) else errR 4 j d
def pNames (l : List Tk) : Nat → List ByteArray → Int → Nat → Res' (List ByteArray)
  | 0, _, _, _ => none
  | f + 1, acc, d, i => bindR (pName l d i) fun e j => if isT l j (tc 44) = true then pNames l f (acc ++ [e]) d (j + 1) else if isT l j (tc 41) = true then okR (acc ++ [e]) (j + 1) else errR 4 j d
/-- Behind the bracket. -/
def pArgs0 (l : List Tk) (f : Nat) (d : Int) (i : Nat) : Res' (List (List ND)) := if isT l i (tc 41) = true then okR [] (i + 1) else pArgs l f [] d i
def pNames0 (l : List Tk) (f : Nat) (d : Int) (i : Nat) : Res' (List ByteArray) := if isT l i (tc 41) = true then okR [] (i + 1) else pNames l f [] d i
/-- A statement behind which a semicolon stands. -/
def ended (l : List Tk) (d : Int) (r : Res' SD) : Res' SD := bindR r fun s j => bindR (pMust l (tc 59) d j) fun _ m => okR s m
def sdE (k : Int) (n : ByteArray) (e : List ND) : SD := .mk k n noS e [] [] []
def isOpen (l : List Tk) (i : Nat) : Bool := (tk l i).kind == 4 && strEq (tk l i).text (tc 40)
def pCall (l : List Tk) (f : Nat) (n p : ByteArray) (d : Int) (i : Nat) : Res' SD :=
  bindR (pMust l (tc 40) d i) fun _ j => bindR (pArgs0 l f d j) fun a m => okR (.mk 8 n p [] a [] []) m
/-- What stands behind a name. -/
def pNamed (l : List Tk) (f : Nat) (n : ByteArray) (d : Int) (i : Nat) : Res' SD :=
  if isT l i (tc 40) = true then ended l d (pCall l f noS n d i)
  else bindR (pMust l (tc 61) d i) fun _ j =>
    if ((tk l j).kind == 1 && isOpen l (j + 1)) = true then ended l d (pCall l f n (tk l j).text d (j + 1))
    else ended l d (bindR (pE l f .expr d j) fun e m => okR (sdE 1 n (e.flat 0)) m)
def kHavoc : ByteArray := ⟨#[104, 97, 118, 111, 99]⟩
def kAssume : ByteArray := ⟨#[97, 115, 115, 117, 109, 101]⟩
def kAssert : ByteArray := ⟨#[97, 115, 115, 101, 114, 116]⟩
def kSkip : ByteArray := ⟨#[115, 107, 105, 112]⟩
def kIf : ByteArray := ⟨#[105, 102]⟩
def kElse : ByteArray := ⟨#[101, 108, 115, 101]⟩
def kWhile : ByteArray := ⟨#[119, 104, 105, 108, 101]⟩
def kEither : ByteArray := ⟨#[101, 105, 116, 104, 101, 114]⟩
def kProc : ByteArray := ⟨#[112, 114, 111, 99]⟩
def kVar : ByteArray := ⟨#[118, 97, 114]⟩
inductive Ls where
  | stmts (acc : List SD)
  | block
  | stmt
def pS (l : List Tk) : Nat → Ls → Int → Nat → Res' (List SD)
  | 0, _, _, _ => none
  | f + 1, .stmts acc, d, i => if isT l i (tc 125) = true then okR acc i else bindR (pS l f .stmt d i) fun s j => pS l f (.stmts (acc ++ s)) d j
  | f + 1, .block, d, i =>
    if isT l i (tc 123) = true then (if 50 ≤ d then errR 5 i d else bindR (pS l f (.stmts []) (d + 1) (i + 1)) fun b j => if isT l j (tc 125) = true then okR b (j + 1) else errR 4 j (d + 1))
    else errR 4 i d
  | f + 1, .stmt, d, i =>
    if (tk l i).kind = 1 then bindR (pNamed l f (tk l i).text d (i + 1)) fun s j => okR [s] j
    else if isT l i kHavoc = true then bindR (ended l d (bindR (pName l d (i + 1)) fun n j => okR (sdE 2 n []) j)) fun s j => okR [s] j
    else if isT l i kAssume = true then bindR (ended l d (bindR (pE l f .cond d (i + 1)) fun e j => okR (sdE 3 noS (e.flat 0)) j)) fun s j => okR [s] j
    else if isT l i kAssert = true then bindR (ended l d (bindR (pE l f .cond d (i + 1)) fun e j => okR (sdE 4 noS (e.flat 0)) j)) fun s j => okR [s] j
    else if isT l i kSkip = true then bindR (ended l d (okR (sdE 9 noS []) (i + 1))) fun s j => okR [s] j
    else if isT l i kIf = true then bindR (pE l f .cond d (i + 1)) fun e j => bindR (pS l f .block d j) fun b m =>
      if isT l m kElse = true then bindR (pS l f .block d (m + 1)) fun b2 m2 => okR [.mk 5 noS noS (e.flat 0) [] b b2] m2 else okR [.mk 5 noS noS (e.flat 0) [] b []] m
    else if isT l i kWhile = true then bindR (pE l f .cond d (i + 1)) fun e j => bindR (pS l f .block d j) fun b m => okR [.mk 6 noS noS (e.flat 0) [] b []] m
    else if isT l i kEither = true then bindR (pS l f .block d (i + 1)) fun b j => bindR (pMust l tOr d j) fun _ m => bindR (pS l f .block d m) fun b2 m2 => okR [.mk 7 noS noS [] [] b b2] m2
    else errR 4 i d
def pVars (l : List Tk) : Nat → List ByteArray → Int → Nat → Res' (List ByteArray)
  | 0, _, _, _ => none
  | f + 1, acc, d, i => if isT l i kVar = true then bindR (pName l d (i + 1)) fun n j => bindR (pMust l (tc 59) d j) fun _ m => pVars l f (acc ++ [n]) d m else okR acc i
def pProc (l : List Tk) (f : Nat) (i : Nat) : Res' PD :=
  bindR (pMust l kProc 0 i) fun _ i1 => bindR (pName l 0 i1) fun n i2 => bindR (pMust l (tc 40) 0 i2) fun _ i3 => bindR (pNames0 l f 0 i3) fun ps i4 =>
  bindR (if isT l i4 ⟨#[45, 62]⟩ = true then pName l 0 (i4 + 1) else okR noS i4) fun r i5 => bindR (pMust l (tc 123) 0 i5) fun _ i6 =>
  bindR (pVars l f [] 0 i6) fun vs i7 => bindR (pS l f (.stmts []) 0 i7) fun b i8 => bindR (pMust l (tc 125) 0 i8) fun _ i9 => okR ⟨n, ps, r, vs, b⟩ i9
def pProg (l : List Tk) : Nat → List PD → Nat → Res' (List PD)
  | 0, _, _ => none
  | f + 1, acc, i => bindR (pProc l f i) fun p j => if (tk l j).kind = 0 then okR (acc ++ [p]) j else pProg l f (acc ++ [p]) j
end Go.Proofs.Hk

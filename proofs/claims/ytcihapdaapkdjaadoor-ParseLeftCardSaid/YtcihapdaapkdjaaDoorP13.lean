import Derived.Test.YtcihapdaapkdjaaDoorP12
import Derived.KernelRfl
set_option linter.unusedSimpArgs false
set_option linter.unusedVariables false
namespace Go.Proofs.Hk
open Go Go.Proofs Lx

/-! Texts in which something stands again and again. -/
def rp (a b : ByteArray) : Nat → ByteArray
  | 0 => a
  | k + 1 => rp a b k ++ b
def sp : ByteArray := ⟨#[32]⟩
theorem rp_front (a b : ByteArray) : ∀ k, rp a b (k + 1) = rp (a ++ b) b k
  | 0 => rfl
  | k + 1 => by rw [rp, rp_front a b k]; rfl
theorem cat_append : ∀ (a b : List Pc), cat (a ++ b) = cat a ++ cat b
  | [], b => by
    simp only [List.nil_append, cat]
    rw [show (⟨#[]⟩ : ByteArray) = ByteArray.empty from rfl, ByteArray.empty_append]
  | (g, k, w) :: a, b => by simp only [List.cons_append, cat, cat_append a b, ByteArray.append_assoc]
def reps (qs : List Pc) : Nat → List Pc
  | 0 => []
  | k + 1 => qs ++ reps qs k
theorem reps_comm (qs : List Pc) : ∀ k, reps qs k ++ qs = qs ++ reps qs k
  | 0 => by simp [reps]
  | k + 1 => by rw [reps, List.append_assoc, reps_comm qs k]
theorem rp_cat (ps qs : List Pc) : ∀ k, rp (cat ps) (cat qs) k = cat (ps ++ reps qs k)
  | 0 => by simp [rp, reps]
  | k + 1 => by
    rw [rp, rp_cat ps qs k, ← cat_append, List.append_assoc, reps_comm]; rfl
theorem gap_app {a b : ByteArray} (ha : WGap a) (hb : WGap b) : WGap (a ++ b) := ⟨fun T off e => by
  rw [ha.skip T off (Emb.left e), hb.skip T _ (Emb.right e), ByteArray.size_append, Nat.add_assoc]⟩
def blanks (n : Nat) : ByteArray := ⟨(List.replicate n 32).toArray⟩
theorem rp_sp (a : ByteArray) : ∀ k, rp a sp k = a ++ blanks k
  | 0 => by
    rw [rp, show blanks 0 = ByteArray.empty from rfl, ByteArray.append_empty]
  | k + 1 => by
    rw [rp, rp_sp a k, ByteArray.append_assoc]
    congr 1
    apply ByteArray.ext
    simp only [ByteArray.data_append, blanks, sp]
    rw [show (#[32] : Array UInt8) = [32].toArray from rfl, List.append_toArray, List.replicate_succ']
theorem sp_gap : WGap sp := WGap.of (by decide +kernel)
theorem blanks_gap (n : Nat) : WGap (blanks n) := by
  have h : blanks n = rp ⟨#[]⟩ sp n := by
    rw [rp_sp, show (⟨#[]⟩ : ByteArray) = ByteArray.empty from rfl, ByteArray.empty_append]
  rw [h]
  clear h
  induction n with
  | zero => exact WGap.nil
  | succ n ih => exact gap_app ih sp_gap
theorem Val_app : ∀ {a b : List Pc}, Val a → Val b → (a ≠ [] → opensB b) → Val (a ++ b)
  | [], b, _, hb, _ => hb
  | (g, k, w) :: a, b, ha, hb, ho => by
    obtain ⟨h1, h2, h3, h4⟩ := ha
    refine ⟨h1, h2, ?_, Val_app h4 hb fun _ => ho (by simp)⟩
    cases a with
    | nil => exact ho (by simp)
    | cons x a => exact h3
theorem opens_app {a b : List Pc} (h : opensB a) (ha : a ≠ []) : opensB (a ++ b) := by
  cases a with
  | nil => exact absurd rfl ha
  | cons x a => exact h
theorem reps_val {qs : List Pc} (h : Val qs) (ho : opensB qs) (hq : qs ≠ []) : ∀ k, Val (reps qs k) ∧ opensB (reps qs k)
  | 0 => ⟨trivial, trivial⟩
  | k + 1 => ⟨Val_app h (reps_val h ho hq k).1 fun _ => (reps_val h ho hq k).2, opens_app ho hq⟩
/-- The end's place does not matter. -/
def lexOf (ps : List Pc) : List Tk := toks 0 ps ++ [⟨0, ⟨#[]⟩, catL ps⟩]
theorem lex_of (ps : List Pc) (v : Val ps) (hs : catL ps ≤ 8192) : lexR (cat ps) = .ok (lexOf ps) := by
  have := lex_all ps ⟨#[]⟩ v WGap.nil (.inl rfl)
  rw [show (⟨#[]⟩ : ByteArray) = ByteArray.empty from rfl, ByteArray.append_empty, cat_size] at this
  exact this hs
def kt (q : Pc) : Tk := ⟨q.2.1, q.2.2, 0⟩
theorem toks_at : ∀ (ps : List Pc) (off i : Nat) (q : Pc), ps[i]? = some q → (toks off ps)[i]? = some ⟨q.2.1, q.2.2, off + catL (ps.take i) + q.1.size⟩
  | [], _, _, _, h => by simp at h
  | (g, k, w) :: ps, off, 0, q, h => by
    simp only [List.getElem?_cons_zero, Option.some.injEq] at h
    subst h
    simp [toks, catL]
  | (g, k, w) :: ps, off, i + 1, q, h => by
    simp only [List.getElem?_cons_succ] at h
    have := toks_at ps (off + g.size + w.size) i q h
    simp only [toks, List.getElem?_cons_succ, this, List.take_succ_cons, catL, Option.some.injEq, Tk.mk.injEq, true_and]
    omega
theorem toks_len : ∀ (ps : List Pc) (off : Nat), (toks off ps).length = ps.length
  | [], _ => rfl
  | (g, k, w) :: ps, off => by simp [toks, toks_len ps]
theorem lexOf_len (ps : List Pc) : (lexOf ps).length = ps.length + 1 := by simp [lexOf, toks_len]
theorem lexOf_at {ps : List Pc} {i : Nat} {q : Pc} (h : ps[i]? = some q) : tk (lexOf ps) i = ⟨q.2.1, q.2.2, catL (ps.take i) + q.1.size⟩ := by
  have hi : i < ps.length := (List.getElem?_eq_some_iff.1 h).1
  have := toks_at ps 0 i q h
  simp only [tk, lexOf, List.getD_eq_getElem?_getD]
  rw [List.getElem?_append_left (by rw [toks_len]; exact hi), this]
  simp
theorem lexOf_end (ps : List Pc) : (tk (lexOf ps) ps.length).kind = 0 := by
  simp only [tk, lexOf, List.getD_eq_getElem?_getD]
  rw [List.getElem?_append_right (by rw [toks_len]; exact Nat.le_refl _), toks_len]
  simp
def isP (q : Pc) (s : ByteArray) : Bool := (q.2.1 == 4 || q.2.1 == 3) && strEq q.2.2 s
theorem isT_at {ps : List Pc} {i : Nat} {q : Pc} (h : ps[i]? = some q) (s : ByteArray) : isT (lexOf ps) i s = isP q s := by
  unfold isT isP
  rw [lexOf_at h]
theorem reps_one (q : Pc) : ∀ n, reps [q] n = List.replicate n q
  | 0 => rfl
  | n + 1 => by rw [reps, reps_one q n]; rfl
/-! Brackets, signs and blocks within one another. -/
def aheadS : Nat → Int × ByteArray
  | 0 => (4, ⟨#[40]⟩)
  | 1 => (4, ⟨#[45]⟩)
  | 2 => (3, ⟨#[110, 111, 116]⟩)
  | _ => (4, ⟨#[91]⟩)
def behindS : Nat → ByteArray
  | 0 => ⟨#[41]⟩
  | 1 => ⟨#[]⟩
  | 2 => ⟨#[]⟩
  | _ => ⟨#[93]⟩
def beginS (w : Nat) : ByteArray := if w < 2 then ⟨#[112,114,111,99,32,109,32,40,32,41,32,123,32,120,32,61,32]⟩ else ⟨#[112,114,111,99,32,109,32,40,32,41,32,123,32,97,115,115,117,109,101,32]⟩
def midS (w : Nat) : ByteArray := if w < 2 then ⟨#[49]⟩ else ⟨#[116,114,117,101]⟩
def endS : ByteArray := ⟨#[32,59,32,125]⟩
/-- The law's first text. -/
def deepT (k w : Nat) : ByteArray := rp (rp (beginS w) (sp ++ (aheadS w).2) k ++ sp ++ midS w) (sp ++ behindS w) k ++ endS
def head6 : List Pc := [(⟨#[]⟩, 3, kProc), (sp, 1, ⟨#[109]⟩), (sp, 4, ⟨#[40]⟩), (sp, 4, ⟨#[41]⟩), (sp, 4, ⟨#[123]⟩)]
def headS (w : Nat) : List Pc := head6 ++ (if w < 2 then [(sp, 1, ⟨#[120]⟩), (sp, 4, ⟨#[61]⟩)] else [(sp, 3, kAssume)]) ++ [(⟨#[32, 32]⟩, (aheadS w).1, (aheadS w).2)]
def midP (w : Nat) : List Pc := if w < 2 then [(sp, 2, ⟨#[49]⟩)] else [(sp, 3, tTrue)]
def tailP (k w : Nat) : List Pc := if w = 0 ∨ w = 3 then reps [(sp, 4, behindS w)] k ++ [(sp, 4, ⟨#[59]⟩), (sp, 4, ⟨#[125]⟩)] else [(blanks (k + 1), 4, ⟨#[59]⟩), (sp, 4, ⟨#[125]⟩)]
/-- With one more. -/
def deepP (k w : Nat) : List Pc := headS w ++ reps [(sp, (aheadS w).1, (aheadS w).2)] k ++ midP w ++ tailP (k + 1) w
theorem sp_first : 0 < sp.size ∧ blankZ (byteAt sp 0) = true := ⟨by decide, by decide⟩
theorem wtk1 {k : Int} {w : ByteArray} (h0 : 0 < w.size) (h1 : nxt w 0 = .tok ⟨k, w, 0⟩ w.size) (h2 : byteAt w 0 ≠ 35) : WTk k w := ⟨h0, h1, h2⟩
theorem val1 {k : Int} {w : ByteArray} (h : WTk k w) : Val [(sp, k, w)] := ⟨sp_gap, h, trivial, trivial⟩
theorem ahead_wtk : ∀ w, w < 4 → WTk (aheadS w).1 (aheadS w).2
  | 0, _ => wtk1 (by decide) (by kernel_rfl) (by decide)
  | 1, _ => wtk1 (by decide) (by kernel_rfl) (by decide)
  | 2, _ => wtk1 (by decide) (by kernel_rfl) (by decide)
  | 3, _ => wtk1 (by decide) (by kernel_rfl) (by decide)
theorem end_val (g : ByteArray) (hg : WGap g) : Val [(g, 4, ⟨#[59]⟩), (sp, 4, ⟨#[125]⟩)] := ⟨hg, wtk1 (by decide) (by kernel_rfl) (by decide), sp_first, sp_gap, wtk1 (by decide) (by kernel_rfl) (by decide), trivial, trivial⟩
theorem head6_val : Val head6 := ⟨WGap.nil, wtk1 (by decide) (by kernel_rfl) (by decide), sp_first, sp_gap, wtk1 (by decide) (by kernel_rfl) (by decide), sp_first, sp_gap, wtk1 (by decide) (by kernel_rfl) (by decide), sp_first, sp_gap, wtk1 (by decide) (by kernel_rfl) (by decide), sp_first, sp_gap, wtk1 (by decide) (by kernel_rfl) (by decide), trivial, trivial⟩
theorem headS_val (w : Nat) (hw : w < 4) : Val (headS w) := by
  unfold headS
  have h2 : Val [(⟨#[32, 32]⟩, (aheadS w).1, (aheadS w).2)] := ⟨WGap.of (by decide +kernel), ahead_wtk w hw, trivial, trivial⟩
  have o2 : opensB [((⟨#[32, 32]⟩ : ByteArray), (aheadS w).1, (aheadS w).2)] := ⟨by decide, by decide⟩
  refine Val_app (Val_app head6_val ?_ fun _ => ?_) h2 fun _ => o2
  · split
    · exact ⟨sp_gap, wtk1 (by decide) (by kernel_rfl) (by decide), sp_first, sp_gap, wtk1 (by decide) (by kernel_rfl) (by decide), trivial, trivial⟩
    · exact val1 (wtk1 (by decide) (by kernel_rfl) (by decide))
  · split <;> exact sp_first
theorem behind_wtk (w : Nat) (hw : w < 4) (h : w = 0 ∨ w = 3) : WTk 4 (behindS w) := by
  rcases h with rfl | rfl
  · exact wtk1 (by decide) (by kernel_rfl) (by decide)
  · exact wtk1 (by decide) (by kernel_rfl) (by decide)
theorem blanks_first (k : Nat) : 0 < (blanks (k + 1)).size ∧ blankZ (byteAt (blanks (k + 1)) 0) = true := by
  refine ⟨by simp [blanks, ByteArray.size], ?_⟩
  simp [blanks, byteAt, List.replicate_succ, blankZ]
theorem deepP_val (k w : Nat) (hw : w < 4) : Val (deepP k w) := by
  unfold deepP
  have a := reps_val (val1 (ahead_wtk w hw)) sp_first (by simp) k
  have hm : Val (midP w) ∧ opensB (midP w) := by
    unfold midP
    split
    · exact ⟨val1 (wtk1 (by decide) (by kernel_rfl) (by decide)), sp_first⟩
    · exact ⟨val1 (wtk1 (by decide) (by kernel_rfl) (by decide)), sp_first⟩
  have ht : Val (tailP (k + 1) w) ∧ opensB (tailP (k + 1) w) := by
    unfold tailP
    split
    · rename_i h
      have r := reps_val (val1 (behind_wtk w hw h)) sp_first (by simp) (k + 1)
      exact ⟨Val_app r.1 (end_val sp sp_gap) fun _ => sp_first, opens_app r.2 (by simp [reps])⟩
    · exact ⟨end_val _ (blanks_gap _), blanks_first _⟩
  exact Val_app (Val_app (Val_app (headS_val w hw) a.1 fun _ => a.2) hm.1 fun _ => hm.2) ht.1 fun _ => ht.2
theorem begin_cat : ∀ w, w < 4 → beginS w ++ (sp ++ (aheadS w).2) = cat (headS w)
  | 0, _ => by kernel_rfl
  | 1, _ => by kernel_rfl
  | 2, _ => by kernel_rfl
  | 3, _ => by kernel_rfl
theorem behind_no : ∀ w, w = 1 ∨ w = 2 → sp ++ behindS w = sp
  | 1, _ => by kernel_rfl
  | 2, _ => by kernel_rfl
theorem deepT_cat (k w : Nat) (hw : w < 4) : deepT (k + 1) w = cat (deepP k w) := by
  unfold deepT deepP
  have h1 : beginS w ++ (sp ++ (aheadS w).2) = cat (headS w) := by
    exact begin_cat w hw
  have h2 : sp ++ (aheadS w).2 = cat [(sp, (aheadS w).1, (aheadS w).2)] := by
    simp only [cat]
    rw [show (⟨#[]⟩ : ByteArray) = ByteArray.empty from rfl, ByteArray.append_empty]
  have h3 : sp ++ midS w = cat (midP w) := by
    unfold midS midP
    split
    · kernel_rfl
    · kernel_rfl
  rw [rp_front (beginS w), h1, h2, rp_cat, ByteArray.append_assoc, h3, ← cat_append]
  unfold tailP
  by_cases hb : w = 0 ∨ w = 3
  · rw [if_pos hb]
    have h4 : sp ++ behindS w = cat [(sp, 4, behindS w)] := by
      simp only [cat]
      rw [show (⟨#[]⟩ : ByteArray) = ByteArray.empty from rfl, ByteArray.append_empty]
    have h5 : endS = cat [(sp, 4, ⟨#[59]⟩), (sp, 4, ⟨#[125]⟩)] := by kernel_rfl
    rw [h4, rp_cat, h5, ← cat_append]
    simp only [List.append_assoc]
  · rw [if_neg hb]
    have hbe : sp ++ behindS w = sp := by
      exact behind_no w (by omega)
    rw [hbe, rp_sp, ByteArray.append_assoc]
    have h6 : blanks (k + 1) ++ endS = cat [(blanks (k + 1 + 1), 4, ⟨#[59]⟩), (sp, 4, ⟨#[125]⟩)] := by
      have e1 : blanks (k + 1 + 1) = blanks (k + 1) ++ sp := by
        have := rp_sp ⟨#[]⟩ (k + 1 + 1)
        rw [rp, rp_sp, show (⟨#[]⟩ : ByteArray) = ByteArray.empty from rfl, ByteArray.empty_append, ByteArray.empty_append] at this
        exact this.symm
      have e2 : endS = sp ++ (⟨#[59]⟩ ++ cat [(sp, 4, ⟨#[125]⟩)]) := by kernel_rfl
      rw [e2, ← ByteArray.append_assoc, ← e1]
      rfl
    rw [h6, ← cat_append]
/-- The law's second text. -/
def whileS : ByteArray := ⟨#[32,119,104,105,108,101,32,42,32,123]⟩
def braceS : ByteArray := ⟨#[32,125]⟩
def head5S : ByteArray := ⟨#[112,114,111,99,32,109,32,40,32,41,32,123]⟩
def blockT (k : Nat) : ByteArray := rp (rp head5S whileS k) braceS k ++ braceS
def blockP (k : Nat) : List Pc := head6 ++ reps [(sp, 3, kWhile), (sp, 4, ⟨#[42]⟩), (sp, 4, ⟨#[123]⟩)] k ++ reps [(sp, 4, ⟨#[125]⟩)] (k + 1)
theorem blockP_val (k : Nat) : Val (blockP k) := by
  unfold blockP
  have w3 : Val [(sp, 3, kWhile), (sp, 4, ⟨#[42]⟩), (sp, 4, ⟨#[123]⟩)] := ⟨sp_gap, wtk1 (by decide) (by kernel_rfl) (by decide), sp_first, sp_gap, wtk1 (by decide) (by kernel_rfl) (by decide), sp_first, sp_gap, wtk1 (by decide) (by kernel_rfl) (by decide), trivial, trivial⟩
  have a := reps_val w3 sp_first (by simp) k
  have b := reps_val (val1 (wtk1 (k := 4) (w := ⟨#[125]⟩) (by decide) (by kernel_rfl) (by decide))) sp_first (by simp) (k + 1)
  exact Val_app (Val_app head6_val a.1 fun _ => a.2) b.1 fun _ => b.2
theorem blockT_cat (k : Nat) : blockT k = cat (blockP k) := by
  unfold blockT blockP
  have h1 : head5S = cat head6 := by kernel_rfl
  have h2 : whileS = cat [(sp, 3, kWhile), (sp, 4, ⟨#[42]⟩), (sp, 4, ⟨#[123]⟩)] := by kernel_rfl
  have h3 : braceS = cat [(sp, 4, ⟨#[125]⟩)] := by kernel_rfl
  rw [h1, h2, h3, rp_cat, rp_cat, ← cat_append, List.append_assoc, reps_comm]
  rfl
end Go.Proofs.Hk

set_option linter.unusedSimpArgs false
set_option linter.unusedVariables false
namespace Go.Proofs.Hk
open Go Go.Proofs Lx

/-! With fuel enough. -/
def Ev (p : Nat → Prop) : Prop := ∃ N, ∀ f, N ≤ f → p f
theorem Ev.all {p : Nat → Prop} (h : ∀ f, p f) : Ev p := ⟨0, fun f _ => h f⟩
theorem Ev.one {p : Nat → Prop} (h : ∀ f, p (f + 1)) : Ev p := ⟨1, fun f hf => by
  obtain ⟨g, rfl⟩ : ∃ g, f = g + 1 := ⟨f - 1, by omega⟩
  exact h g⟩
theorem Ev.succ {p q : Nat → Prop} (h : Ev p) (k : ∀ f, p f → q (f + 1)) : Ev q := by
  obtain ⟨N, h⟩ := h
  refine ⟨N + 1, fun f hf => ?_⟩
  obtain ⟨g, rfl⟩ : ∃ g, f = g + 1 := ⟨f - 1, by omega⟩
  exact k g (h g (by omega))
theorem Ev.succ2 {p q r : Nat → Prop} (h : Ev p) (h' : Ev q) (k : ∀ f, p f → q f → r (f + 1)) : Ev r := by
  obtain ⟨N, h⟩ := h
  obtain ⟨M, h'⟩ := h'
  refine ⟨max N M + 1, fun f hf => ?_⟩
  obtain ⟨g, rfl⟩ : ∃ g, f = g + 1 := ⟨f - 1, by omega⟩
  exact k g (h g (by omega)) (h' g (by omega))
theorem Ev.mono {p q : Nat → Prop} (h : Ev p) (k : ∀ f, p f → q f) : Ev q := by
  obtain ⟨N, h⟩ := h
  exact ⟨N, fun f hf => k f (h f hf)⟩
theorem bind_ok {α β : Type} {r : Res' α} {x : α} {j : Nat} (h : r = okR x j) (k : α → Nat → Res' β) : bindR r k = k x j := by rw [h]; rfl
theorem bind_err {α β : Type} {r : Res' α} {c d : Int} {j : Nat} (h : r = errR c j d) (k : α → Nat → Res' β) : bindR r k = errR c j d := by rw [h]; rfl
section
variable {l : List Tk}
/-- No operator stands there. -/
structure NoOp (l : List Tk) (j : Nat) : Prop where
  or : orK l j = none
  and : andK l j = none
  add : addK l j = none
  mul : mulK l j = none
theorem noOp_of {j : Nat} {q : Pc} (h : ∀ s, isT l j s = isP q s) (e : (isP q tOr || isP q tAnd || isP q (tc 43) || isP q (tc 45) || isP q (tc 42) || isP q (tc 47) || isP q (tc 37)) = false) : NoOp l j := by
  simp only [Bool.or_eq_false_iff] at e
  obtain ⟨⟨⟨⟨⟨⟨e1, e2⟩, e3⟩, e4⟩, e5⟩, e6⟩, e7⟩ := e
  constructor <;> simp [orK, andK, addK, mulK, h, e1, e2, e3, e4, e5, e6, e7]
section
variable {d : Int} {i j : Nat} {e : Ex}
theorem up_term (h : Ev fun f => pE l f .unary d i = okR e j) (n : NoOp l j) : Ev fun f => pE l f .term d i = okR e j :=
  h.succ2 (q := fun f => pE l f (.termL e) d j = okR e j) (Ev.one fun f => by simp only [pE, n.mul]) fun f h1 h2 => by
    simp only [pE]; rw [bind_ok h1]; exact h2
theorem up_expr (h : Ev fun f => pE l f .unary d i = okR e j) (n : NoOp l j) : Ev fun f => pE l f .expr d i = okR e j :=
  (up_term h n).succ2 (q := fun f => pE l f (.exprL e) d j = okR e j) (Ev.one fun f => by simp only [pE, n.add]) fun f h1 h2 => by
    simp only [pE]; rw [bind_ok h1]; exact h2
theorem up_conj (h : Ev fun f => pE l f .lit d i = okR e j) (n : NoOp l j) : Ev fun f => pE l f .conj d i = okR e j :=
  h.succ2 (q := fun f => pE l f (.conjL e) d j = okR e j) (Ev.one fun f => by simp only [pE, n.and]) fun f h1 h2 => by
    simp only [pE]; rw [bind_ok h1]; exact h2
theorem up_cond (h : Ev fun f => pE l f .lit d i = okR e j) (n : NoOp l j) : Ev fun f => pE l f .cond d i = okR e j :=
  (up_conj h n).succ2 (q := fun f => pE l f (.condL e) d j = okR e j) (Ev.one fun f => by simp only [pE, n.or]) fun f h1 h2 => by
    simp only [pE]; rw [bind_ok h1]; exact h2
variable {c d' : Int}
theorem er_expr (h : Ev fun f => pE l f .unary d i = errR c j d') : Ev fun f => pE l f .expr d i = errR c j d' :=
  Ev.succ (p := fun f => pE l f .term d i = errR c j d') (h.succ fun f h1 => by simp only [pE]; rw [bind_err h1]) fun f h1 => by
    simp only [pE]; rw [bind_err h1]
theorem er_cond (h : Ev fun f => pE l f .lit d i = errR c j d') : Ev fun f => pE l f .cond d i = errR c j d' :=
  Ev.succ (p := fun f => pE l f .conj d i = errR c j d') (h.succ fun f h1 => by simp only [pE]; rw [bind_err h1]) fun f h1 => by
    simp only [pE]; rw [bind_err h1]
end
/-- Something within something, so deep. -/
theorem nest_neg {q z : Pc} (hq : isP q (tc 45) = true) (hz : isP z (tc 45) = false ∧ isP z (tc 40) = false) : ∀ (n m i : Nat), m + n ≤ 50 → (∀ j, j < n → ∀ s, isT l (i + j) s = isP q s) → (∀ s, isT l (i + n) s = isP z s) → (tk l (i + n)).kind = 2 → ∃ e, Ev fun f => pE l f .unary (m : Nat) i = okR e (i + n + 1)
  | 0, m, i, hm, ha, hb, hk => ⟨_, Ev.one fun f => by
      simp only [Nat.add_zero] at hb hk
      simp only [pE, hb, hz.1, hz.2, Bool.false_eq_true, if_false, hk, if_true]; rfl⟩
  | n + 1, m, i, hm, ha, hb, hk => by
    obtain ⟨e, h⟩ := nest_neg hq hz n (m + 1) (i + 1) (by omega) (fun j hj s => by rw [show i + 1 + j = i + (j + 1) from by omega]; exact ha (j + 1) (by omega) s) (fun s => by rw [show i + 1 + n = i + (n + 1) from by omega]; exact hb s) (by rw [show i + 1 + n = i + (n + 1) from by omega]; exact hk)
    refine ⟨.un 3 e, h.succ fun f h1 => ?_⟩
    have a0 := ha 0 (by omega)
    simp only [Nat.add_zero] at a0
    simp only [pE, a0, hq, if_true]
    rw [if_neg (by omega), show ((m : Nat) : Int) + 1 = ((m + 1 : Nat) : Int) from rfl, bind_ok h1, show i + 1 + n + 1 = i + (n + 1) + 1 from by omega]
theorem nest_neg_er {q : Pc} (hq : isP q (tc 45) = true) : ∀ (n m i : Nat), m ≤ 50 → 50 < m + n → (∀ j, j < n → ∀ s, isT l (i + j) s = isP q s) → Ev fun f => pE l f .unary (m : Nat) i = errR 5 (i + (50 - m)) 50
  | 0, m, i, h1, h2, ha => by omega
  | n + 1, m, i, h1, h2, ha => by
    have a0 := ha 0 (by omega)
    simp only [Nat.add_zero] at a0
    by_cases hm : m = 50
    · subst hm
      refine Ev.one fun f => ?_
      simp only [pE, a0, hq, if_true]
      rw [if_pos (by decide)]; rfl
    · refine (nest_neg_er hq n (m + 1) (i + 1) (by omega) (by omega) (fun j hj s => by rw [show i + 1 + j = i + (j + 1) from by omega]; exact ha (j + 1) (by omega) s)).succ fun f h1 => ?_
      simp only [pE, a0, hq, if_true]
      rw [if_neg (by omega), show ((m : Nat) : Int) + 1 = ((m + 1 : Nat) : Int) from rfl, bind_err h1, show i + 1 + (50 - (m + 1)) = i + (50 - m) from by omega]
theorem nest_par {q z y : Pc} (hq : isP q (tc 45) = false ∧ isP q (tc 40) = true) (hz : isP z (tc 45) = false ∧ isP z (tc 40) = false) (hy : isP y (tc 41) = true) (ny : (isP y tOr || isP y tAnd || isP y (tc 43) || isP y (tc 45) || isP y (tc 42) || isP y (tc 47) || isP y (tc 37)) = false) : ∀ (n m i : Nat), m + n ≤ 50 → (∀ j, j < n → ∀ s, isT l (i + j) s = isP q s) → (∀ s, isT l (i + n) s = isP z s) → (tk l (i + n)).kind = 2 → (∀ j, j < n → ∀ s, isT l (i + n + 1 + j) s = isP y s) → ∃ e, Ev fun f => pE l f .unary (m : Nat) i = okR e (i + n + 1 + n)
  | 0, m, i, hm, ha, hb, hk, hc => ⟨_, Ev.one fun f => by
      simp only [Nat.add_zero] at hb hk
      simp only [pE, hb, hz.1, hz.2, Bool.false_eq_true, if_false, hk, if_true]; rfl⟩
  | n + 1, m, i, hm, ha, hb, hk, hc => by
    obtain ⟨e, h⟩ := nest_par hq hz hy ny n (m + 1) (i + 1) (by omega) (fun j hj s => by rw [show i + 1 + j = i + (j + 1) from by omega]; exact ha (j + 1) (by omega) s) (fun s => by rw [show i + 1 + n = i + (n + 1) from by omega]; exact hb s) (by rw [show i + 1 + n = i + (n + 1) from by omega]; exact hk) (fun j hj s => by rw [show i + 1 + n + 1 + j = i + (n + 1) + 1 + j from by omega]; exact hc j (by omega) s)
    have c0 : ∀ s, isT l (i + 1 + n + 1 + n) s = isP y s := fun s => by rw [show i + 1 + n + 1 + n = i + (n + 1) + 1 + n from by omega]; exact hc n (by omega) s
    refine ⟨e, (up_expr h (noOp_of c0 ny)).succ fun f h1 => ?_⟩
    have a0 := ha 0 (by omega)
    simp only [Nat.add_zero] at a0
    simp only [pE, a0, hq.1, hq.2, Bool.false_eq_true, if_false, if_true]
    rw [if_neg (by omega), show ((m : Nat) : Int) + 1 = ((m + 1 : Nat) : Int) from rfl, bind_ok h1]
    simp only [c0, hy, if_true]
    rw [show i + 1 + n + 1 + n + 1 = i + (n + 1) + 1 + (n + 1) from by omega]
theorem nest_par_er {q : Pc} (hq : isP q (tc 45) = false ∧ isP q (tc 40) = true) : ∀ (n m i : Nat), m ≤ 50 → 50 < m + n → (∀ j, j < n → ∀ s, isT l (i + j) s = isP q s) → Ev fun f => pE l f .unary (m : Nat) i = errR 5 (i + (50 - m)) 50
  | 0, m, i, h1, h2, ha => by omega
  | n + 1, m, i, h1, h2, ha => by
    have a0 := ha 0 (by omega)
    simp only [Nat.add_zero] at a0
    by_cases hm : m = 50
    · subst hm
      refine Ev.one fun f => ?_
      simp only [pE, a0, hq.1, hq.2, Bool.false_eq_true, if_false, if_true]
      rw [if_pos (by decide)]; rfl
    · refine (er_expr (nest_par_er hq n (m + 1) (i + 1) (by omega) (by omega) (fun j hj s => by rw [show i + 1 + j = i + (j + 1) from by omega]; exact ha (j + 1) (by omega) s))).succ fun f h1 => ?_
      simp only [pE, a0, hq.1, hq.2, Bool.false_eq_true, if_false, if_true]
      rw [if_neg (by omega), show ((m : Nat) : Int) + 1 = ((m + 1 : Nat) : Int) from rfl, bind_err h1, show i + 1 + (50 - (m + 1)) = i + (50 - m) from by omega]
theorem nest_not {q z : Pc} (hq : isP q tNot = true) (hz : isP z tNot = false ∧ isP z (tc 91) = false ∧ isP z tTrue = true) : ∀ (n m i : Nat), m + n ≤ 50 → (∀ j, j < n → ∀ s, isT l (i + j) s = isP q s) → (∀ s, isT l (i + n) s = isP z s) → ∃ e, Ev fun f => pE l f .lit (m : Nat) i = okR e (i + n + 1)
  | 0, m, i, hm, ha, hb => ⟨_, Ev.one fun f => by
      simp only [Nat.add_zero] at hb
      simp only [pE, hb, hz.1, hz.2.1, hz.2.2, Bool.false_eq_true, if_false, if_true]; rfl⟩
  | n + 1, m, i, hm, ha, hb => by
    obtain ⟨e, h⟩ := nest_not hq hz n (m + 1) (i + 1) (by omega) (fun j hj s => by rw [show i + 1 + j = i + (j + 1) from by omega]; exact ha (j + 1) (by omega) s) (fun s => by rw [show i + 1 + n = i + (n + 1) from by omega]; exact hb s)
    refine ⟨.un 18 e, h.succ fun f h1 => ?_⟩
    have a0 := ha 0 (by omega)
    simp only [Nat.add_zero] at a0
    simp only [pE, a0, hq, if_true]
    rw [if_neg (by omega), show ((m : Nat) : Int) + 1 = ((m + 1 : Nat) : Int) from rfl, bind_ok h1, show i + 1 + n + 1 = i + (n + 1) + 1 from by omega]
theorem nest_not_er {q : Pc} (hq : isP q tNot = true) : ∀ (n m i : Nat), m ≤ 50 → 50 < m + n → (∀ j, j < n → ∀ s, isT l (i + j) s = isP q s) → Ev fun f => pE l f .lit (m : Nat) i = errR 5 (i + (50 - m)) 50
  | 0, m, i, h1, h2, ha => by omega
  | n + 1, m, i, h1, h2, ha => by
    have a0 := ha 0 (by omega)
    simp only [Nat.add_zero] at a0
    by_cases hm : m = 50
    · subst hm
      refine Ev.one fun f => ?_
      simp only [pE, a0, hq, if_true]
      rw [if_pos (by decide)]; rfl
    · refine (nest_not_er hq n (m + 1) (i + 1) (by omega) (by omega) (fun j hj s => by rw [show i + 1 + j = i + (j + 1) from by omega]; exact ha (j + 1) (by omega) s)).succ fun f h1 => ?_
      simp only [pE, a0, hq, if_true]
      rw [if_neg (by omega), show ((m : Nat) : Int) + 1 = ((m + 1 : Nat) : Int) from rfl, bind_err h1, show i + 1 + (50 - (m + 1)) = i + (50 - m) from by omega]
theorem nest_sq {q z y : Pc} (hq : isP q tNot = false ∧ isP q (tc 91) = true) (hz : isP z tNot = false ∧ isP z (tc 91) = false ∧ isP z tTrue = true) (hy : isP y (tc 93) = true) (ny : (isP y tOr || isP y tAnd || isP y (tc 43) || isP y (tc 45) || isP y (tc 42) || isP y (tc 47) || isP y (tc 37)) = false) : ∀ (n m i : Nat), m + n ≤ 50 → (∀ j, j < n → ∀ s, isT l (i + j) s = isP q s) → (∀ s, isT l (i + n) s = isP z s) → (∀ j, j < n → ∀ s, isT l (i + n + 1 + j) s = isP y s) → ∃ e, Ev fun f => pE l f .lit (m : Nat) i = okR e (i + n + 1 + n)
  | 0, m, i, hm, ha, hb, hc => ⟨_, Ev.one fun f => by
      simp only [Nat.add_zero] at hb
      simp only [pE, hb, hz.1, hz.2.1, hz.2.2, Bool.false_eq_true, if_false, if_true]; rfl⟩
  | n + 1, m, i, hm, ha, hb, hc => by
    obtain ⟨e, h⟩ := nest_sq hq hz hy ny n (m + 1) (i + 1) (by omega) (fun j hj s => by rw [show i + 1 + j = i + (j + 1) from by omega]; exact ha (j + 1) (by omega) s) (fun s => by rw [show i + 1 + n = i + (n + 1) from by omega]; exact hb s) (fun j hj s => by rw [show i + 1 + n + 1 + j = i + (n + 1) + 1 + j from by omega]; exact hc j (by omega) s)
    have c0 : ∀ s, isT l (i + 1 + n + 1 + n) s = isP y s := fun s => by rw [show i + 1 + n + 1 + n = i + (n + 1) + 1 + n from by omega]; exact hc n (by omega) s
    refine ⟨e, (up_cond h (noOp_of c0 ny)).succ fun f h1 => ?_⟩
    have a0 := ha 0 (by omega)
    simp only [Nat.add_zero] at a0
    simp only [pE, a0, hq.1, hq.2, Bool.false_eq_true, if_false, if_true]
    rw [if_neg (by omega), show ((m : Nat) : Int) + 1 = ((m + 1 : Nat) : Int) from rfl, bind_ok h1]
    simp only [c0, hy, if_true]
    rw [show i + 1 + n + 1 + n + 1 = i + (n + 1) + 1 + (n + 1) from by omega]
theorem nest_sq_er {q : Pc} (hq : isP q tNot = false ∧ isP q (tc 91) = true) : ∀ (n m i : Nat), m ≤ 50 → 50 < m + n → (∀ j, j < n → ∀ s, isT l (i + j) s = isP q s) → Ev fun f => pE l f .lit (m : Nat) i = errR 5 (i + (50 - m)) 50
  | 0, m, i, h1, h2, ha => by omega
  | n + 1, m, i, h1, h2, ha => by
    have a0 := ha 0 (by omega)
    simp only [Nat.add_zero] at a0
    by_cases hm : m = 50
    · subst hm
      refine Ev.one fun f => ?_
      simp only [pE, a0, hq.1, hq.2, Bool.false_eq_true, if_false, if_true]
      rw [if_pos (by decide)]; rfl
    · refine (er_cond (nest_sq_er hq n (m + 1) (i + 1) (by omega) (by omega) (fun j hj s => by rw [show i + 1 + j = i + (j + 1) from by omega]; exact ha (j + 1) (by omega) s))).succ fun f h1 => ?_
      simp only [pE, a0, hq.1, hq.2, Bool.false_eq_true, if_false, if_true]
      rw [if_neg (by omega), show ((m : Nat) : Int) + 1 = ((m + 1 : Nat) : Int) from rfl, bind_err h1, show i + 1 + (50 - (m + 1)) = i + (50 - m) from by omega]
/-! Statements, blocks. -/
/-- A token that stands alone is none of the others. -/
def only (q : Pc) (s : ByteArray) : Bool := q.2.1 == 4 || q.2.1 == 3
theorem stmts_one {d : Int} {i j : Nat} {s : SD} (h : Ev fun f => pS l f .stmt d i = okR [s] j) (h0 : isT l i (tc 125) = false) (h1 : isT l j (tc 125) = true) : Ev fun f => pS l f (.stmts []) d i = okR [s] j :=
  h.succ2 (q := fun f => pS l f (.stmts ([] ++ [s])) d j = okR [s] j) (Ev.one fun f => by simp only [pS, h1, if_true]; rfl) fun f g1 g2 => by
    simp only [pS, h0, Bool.false_eq_true, if_false]
    rw [bind_ok g1]; exact g2
theorem stmts_er {d c d' : Int} {i j : Nat} (h : Ev fun f => pS l f .stmt d i = errR c j d') (h0 : isT l i (tc 125) = false) : Ev fun f => pS l f (.stmts []) d i = errR c j d' :=
  h.succ fun f g1 => by
    simp only [pS, h0, Bool.false_eq_true, if_false]
    rw [bind_err g1]
theorem star_cond {d : Int} {i : Nat} {q : Pc} (h : ∀ s, isT l i s = isP q s) (e : isP q tNot = false ∧ isP q (tc 91) = false ∧ isP q tTrue = false ∧ isP q tFalse = false ∧ isP q (tc 42) = true) (n : NoOp l (i + 1)) : Ev fun f => pE l f .cond d i = okR (.leaf 11) (i + 1) :=
  up_cond (Ev.one fun f => by simp only [pE, h, e.1, e.2.1, e.2.2.1, e.2.2.2.1, e.2.2.2.2, Bool.false_eq_true, if_false, if_true]) n
/-- Loops within loops. -/
structure Wh (l : List Tk) (i : Nat) : Prop where
  kw : ∀ s, isT l i s = isP (sp, 3, kWhile) s
  kind : (tk l i).kind = 3
  star : ∀ s, isT l (i + 1) s = isP (sp, 4, ⟨#[42]⟩) s
  open_ : ∀ s, isT l (i + 2) s = isP (sp, 4, ⟨#[123]⟩) s
theorem wh_facts : isP (sp, 3, kWhile) (tc 125) = false ∧ isP (sp, 3, kWhile) kHavoc = false ∧ isP (sp, 3, kWhile) kAssume = false ∧ isP (sp, 3, kWhile) kAssert = false ∧ isP (sp, 3, kWhile) kSkip = false ∧ isP (sp, 3, kWhile) kIf = false ∧ isP (sp, 3, kWhile) kWhile = true := by decide +kernel
theorem open_facts : isP (sp, 4, ⟨#[123]⟩) (tc 123) = true := by decide +kernel
theorem nest_wh : ∀ (n m i : Nat), m + n ≤ 50 → (∀ j, j < n → Wh l (i + 3 * j)) → (∀ j, j ≤ n → isT l (i + 3 * n + j) (tc 125) = true) → ∃ b, Ev fun f => pS l f (.stmts []) (m : Nat) i = okR b (i + 4 * n)
  | 0, m, i, hm, ha, hb => ⟨[], Ev.one fun f => by
      have := hb 0 (Nat.le_refl _)
      simp only [Nat.mul_zero, Nat.add_zero] at this
      simp only [pS, this, if_true]; rfl⟩
  | n + 1, m, i, hm, ha, hb => by
    obtain ⟨b, h⟩ := nest_wh n (m + 1) (i + 3) (by omega) (fun j hj => by rw [show i + 3 + 3 * j = i + 3 * (j + 1) from by omega]; exact ha (j + 1) (by omega)) (fun j hj => by rw [show i + 3 + 3 * n + j = i + 3 * (n + 1) + j from by omega]; exact hb j (by omega))
    have a0 := ha 0 (by omega)
    simp only [Nat.mul_zero, Nat.add_zero] at a0
    obtain ⟨w1, w2, w3, w4, w5, w6, w7⟩ := wh_facts
    have hc := star_cond (l := l) (d := (m : Nat)) (i := i + 1) a0.star (by decide +kernel) (noOp_of a0.open_ (by decide +kernel))
    have hbl : Ev fun f => pS l f .block (m : Nat) (i + 2) = okR b (i + 4 * (n + 1)) := h.succ fun f h1 => by
      simp only [pS, a0.open_, open_facts, if_true]
      rw [if_neg (by omega), show ((m : Nat) : Int) + 1 = ((m + 1 : Nat) : Int) from rfl, bind_ok h1]
      have := hb n (by omega)
      rw [show i + 3 * (n + 1) + n = i + 3 + 4 * n from by omega] at this
      simp only [this, if_true]
      rw [show i + 3 + 4 * n + 1 = i + 4 * (n + 1) from by omega]
    refine ⟨_, stmts_one (s := .mk 6 noS noS ((Ex.leaf 11).flat 0) [] b []) (hc.succ2 hbl fun f h1 h2 => ?_) (by rw [a0.kw]; exact w1) (by have := hb (n + 1) (Nat.le_refl _); rwa [show i + 3 * (n + 1) + (n + 1) = i + 4 * (n + 1) from by omega] at this)⟩
    simp only [pS, a0.kw, a0.kind, w2, w3, w4, w5, w6, w7, Bool.false_eq_true, if_false, if_true, show ¬ (3 : Int) = 1 from by decide]
    rw [bind_ok h1]
    rw [bind_ok h2]
theorem nest_wh_er : ∀ (n m i : Nat), m ≤ 50 → 50 < m + n → (∀ j, j < n → Wh l (i + 3 * j)) → Ev fun f => pS l f (.stmts []) (m : Nat) i = errR 5 (i + 3 * (50 - m) + 2) 50
  | 0, m, i, h1, h2, ha => by omega
  | n + 1, m, i, h1, h2, ha => by
    have a0 := ha 0 (by omega)
    simp only [Nat.mul_zero, Nat.add_zero] at a0
    obtain ⟨w1, w2, w3, w4, w5, w6, w7⟩ := wh_facts
    have hc := star_cond (l := l) (d := (m : Nat)) (i := i + 1) a0.star (by decide +kernel) (noOp_of a0.open_ (by decide +kernel))
    have hbl : Ev fun f => pS l f .block (m : Nat) (i + 2) = errR 5 (i + 3 * (50 - m) + 2) 50 := by
      by_cases hm : m = 50
      · subst hm
        refine Ev.one fun f => ?_
        simp only [pS, a0.open_, open_facts, if_true]
        rw [if_pos (by decide)]; rfl
      · refine (nest_wh_er n (m + 1) (i + 3) (by omega) (by omega) (fun j hj => by rw [show i + 3 + 3 * j = i + 3 * (j + 1) from by omega]; exact ha (j + 1) (by omega))).succ fun f h1 => ?_
        simp only [pS, a0.open_, open_facts, if_true]
        rw [if_neg (by omega), show ((m : Nat) : Int) + 1 = ((m + 1 : Nat) : Int) from rfl, bind_err h1, show i + 3 + 3 * (50 - (m + 1)) + 2 = i + 3 * (50 - m) + 2 from by omega]
    refine stmts_er (hc.succ2 hbl fun f h1 h2 => ?_) (by rw [a0.kw]; exact w1)
    simp only [pS, a0.kw, a0.kind, w2, w3, w4, w5, w6, w7, Bool.false_eq_true, if_false, if_true, show ¬ (3 : Int) = 1 from by decide]
    rw [bind_ok h1]
    rw [bind_err h2]
/-- x = .. ; -/
theorem stmt_set {d : Int} {i : Nat} {r : Res' Ex} (hr : Ev fun f => pE l f .expr d (i + 2) = r) (h0 : (tk l i).kind = 1) (h1 : isT l (i + 1) (tc 40) = false) (h2 : isT l (i + 1) (tc 61) = true) (h3 : (tk l (i + 2)).kind ≠ 1 ∨ isOpen l (i + 3) = false) : Ev fun f => pS l f .stmt d i = bindR (ended l d (bindR r fun e m => okR (sdE 1 (tk l i).text (e.flat 0)) m)) fun s j => okR [s] j :=
  hr.succ fun f g => by
    simp only [pS, h0, if_true]
    unfold pNamed
    have e3 : ((tk l (i + 2)).kind == 1 && isOpen l (i + 3)) = false := by
      rcases h3 with h3 | h3
      · rw [beq_eq_false_iff_ne.2 h3, Bool.false_and]
      · rw [h3, Bool.and_false]
    simp only [h1, Bool.false_eq_true, if_false, pMust, h2, if_true]
    rw [bind_ok (x := ()) (j := i + 2) rfl]
    simp only [e3, Bool.false_eq_true, if_false]
    rw [g]
theorem stmt_assume {d : Int} {i : Nat} {r : Res' Ex} {q : Pc} (hr : Ev fun f => pE l f .cond d (i + 1) = r) (h0 : (tk l i).kind = 3) (hq : ∀ s, isT l i s = isP q s) (e : isP q kHavoc = false ∧ isP q kAssume = true) : Ev fun f => pS l f .stmt d i = bindR (ended l d (bindR r fun e m => okR (sdE 3 noS (e.flat 0)) m)) fun s j => okR [s] j :=
  hr.succ fun f g => by
    simp only [pS, h0, show ¬ (3 : Int) = 1 from by decide, if_false, hq, e.1, e.2, Bool.false_eq_true, if_true]
    rw [g]
/-- proc m ( ) { .. } -/
structure Hd (l : List Tk) : Prop where
  p0 : isT l 0 kProc = true
  p1 : (tk l 1).kind = 1
  p2 : isT l 2 (tc 40) = true
  p3 : isT l 3 (tc 41) = true
  p4 : ∀ s, isT l 4 s = isP (sp, 4, ⟨#[123]⟩) s
  p5 : isT l 5 kVar = false
theorem proc_of {r : Res' (List SD)} (h : Hd l) (hs : Ev fun f => pS l f (.stmts []) 0 5 = r) : Ev fun f => pProc l f 0 = bindR r fun b i8 => bindR (pMust l (tc 125) 0 i8) fun _ i9 => okR (⟨(tk l 1).text, [], noS, [], b⟩ : PD) i9 :=
  Ev.mono (p := fun f => pS l f (.stmts []) 0 5 = r ∧ pVars l f [] 0 5 = okR [] 5) (by
    obtain ⟨N, hs⟩ := hs
    refine ⟨N + 1, fun f hf => ⟨hs f (by omega), ?_⟩⟩
    obtain ⟨g, rfl⟩ : ∃ g, f = g + 1 := ⟨f - 1, by omega⟩
    unfold pVars
    rw [h.p5]; rfl) fun f ⟨g1, g2⟩ => by
    unfold pProc
    have m0 : pMust l kProc 0 0 = okR () 1 := by unfold pMust; rw [h.p0]; rfl
    have m1 : pName l 0 1 = okR (tk l 1).text 2 := by unfold pName; rw [h.p1]; rfl
    have m2 : pMust l (tc 40) 0 2 = okR () 3 := by unfold pMust; rw [h.p2]; rfl
    have m3 : pNames0 l f 0 3 = okR [] 4 := by unfold pNames0; rw [h.p3]; rfl
    have m4 : isT l 4 ⟨#[45, 62]⟩ = false := by rw [h.p4]; decide +kernel
    have m5 : pMust l (tc 123) 0 4 = okR () 5 := by unfold pMust; rw [h.p4, open_facts]; rfl
    rw [bind_ok m0, bind_ok m1, bind_ok m2, bind_ok m3]
    rw [if_neg (by rw [m4]; exact Bool.false_ne_true), bind_ok (x := noS) (j := 4) rfl, bind_ok m5, bind_ok g2, g1]
theorem prog_okE {b : List SD} {j : Nat} (h : Hd l) (hs : Ev fun f => pS l f (.stmts []) 0 5 = okR b j) (h1 : isT l j (tc 125) = true) (h2 : (tk l (j + 1)).kind = 0) : Ev fun f => pProg l f [] 0 = okR [⟨(tk l 1).text, [], noS, [], b⟩] (j + 1) :=
  (proc_of h hs).succ fun f g => by
    have m : pMust l (tc 125) 0 j = okR () (j + 1) := by unfold pMust; rw [h1]; rfl
    rw [bind_ok (x := b) (j := j) rfl, bind_ok m] at g
    unfold pProg
    rw [bind_ok g, if_pos h2]; rfl
theorem prog_erE {c d : Int} {j : Nat} (h : Hd l) (hs : Ev fun f => pS l f (.stmts []) 0 5 = errR c j d) : Ev fun f => pProg l f [] 0 = errR c j d :=
  (proc_of h hs).succ fun f g => by
    rw [bind_err (c := c) (j := j) (d := d) rfl] at g
    unfold pProg
    rw [bind_err g]
theorem prog_fin (wf : WfT l) (h0 : 0 < l.length) {res : Except (Int × Nat × Int) (List PD × Nat)} (h : Ev fun f => pProg l f [] 0 = some res) : pProg l (16 * l.length + 4) [] 0 = some res := by
  obtain ⟨N, h⟩ := h
  cases hp : pProg l (16 * l.length + 4) [] 0 with
  | none => exact absurd hp (pProg_some wf _ _ _ h0 (by omega))
  | some res' =>
    have := pProg_to (J := idx res') wf ⟨fun _ _ => rfl, fun _ _ => rfl⟩ _ (max (16 * l.length + 4) N) [] 0 (by omega) h0 (Nat.zero_le _) res' hp (Nat.le_refl _)
    rw [h _ (by omega)] at this
    exact this.symm
end
/-- What a text of tokens comes to. -/
theorem progR_ev {ps : List Pc} (v : Val ps) (hs : catL ps ≤ 8192) {res : Except (Int × Nat × Int) (List PD × Nat)} (h : Ev fun f => pProg (lexOf ps) f [] 0 = some res) : progR (cat ps) = progO (lexOf ps) res := by
  have L := lex_of ps v hs
  unfold progR
  rw [L]
  simp only []
  rw [prog_fin (lexR_wf L).toWfT (lexR_pos L) h]
  unfold progO
  cases res with
  | ok x => rfl
  | error x => rfl
end Go.Proofs.Hk

set_option linter.unusedSimpArgs false
set_option linter.unusedVariables false
namespace Go.Proofs.Hk
open Go Go.Proofs Lx

theorem at_rep {H R : List Pc} {q : Pc} {k j : Nat} (h : j < k) : (H ++ (List.replicate k q ++ R))[H.length + j]? = some q := by
  rw [List.getElem?_append_right (by omega), show H.length + j - H.length = j from by omega, List.getElem?_append_left (by simpa using h)]
  simp [h]
theorem at_tail {H R : List Pc} {q : Pc} {k j : Nat} : (H ++ (List.replicate k q ++ R))[H.length + k + j]? = R[j]? := by
  rw [List.getElem?_append_right (by omega), show H.length + k + j - H.length = k + j from by omega, List.getElem?_append_right (by simp)]
  simp
theorem catL_app : ∀ (a b : List Pc), catL (a ++ b) = catL a + catL b
  | [], b => by simp [catL]
  | (g, k, w) :: a, b => by simp only [List.cons_append, catL, catL_app a b]; omega
theorem catL_rep (q : Pc) : ∀ n, catL (List.replicate n q) = n * (q.1.size + q.2.2.size)
  | 0 => by simp [catL]
  | n + 1 => by
    obtain ⟨g, k, w⟩ := q
    have := catL_rep (g, k, w) n
    simp only [List.replicate_succ, catL] at *
    rw [this, Nat.succ_mul]; omega
theorem take_rep {H R : List Pc} {q : Pc} {k j : Nat} (h : j ≤ k) : (H ++ (List.replicate k q ++ R)).take (H.length + j) = H ++ List.replicate j q := by
  rw [List.take_append, List.take_of_length_le (by omega), show H.length + j - H.length = j from by omega, List.take_append_of_le_length (by simpa using h), List.take_replicate, Nat.min_eq_left h]
theorem ended_fine {l : List Tk} {d : Int} {j : Nat} {e : Ex} (S : Ex → SD) (h : isT l j (tc 59) = true) : (bindR (ended l d (bindR (okR e j) fun e m => okR (S e) m)) fun s j => okR [s] j) = okR [S e] (j + 1) := by
  simp [ended, bindR, okR, pMust, h]
theorem tk_kind {ps : List Pc} {i : Nat} {q : Pc} (h : ps[i]? = some q) : (tk (lexOf ps) i).kind = q.2.1 := by rw [lexOf_at h]
theorem hd_of {R : List Pc} {q : Pc} (h5 : R[0]? = some q) (hv : isP q kVar = false) : Hd (lexOf (head6 ++ R)) := by
  have g : ∀ i, i < 5 → (head6 ++ R)[i]? = head6[i]? := fun i hi => List.getElem?_append_left (by simpa [head6] using hi)
  have g5 : (head6 ++ R)[5]? = some q := by rw [List.getElem?_append_right (by decide)]; exact h5
  refine ⟨?_, ?_, ?_, ?_, fun s => ?_, ?_⟩
  · rw [isT_at (g 0 (by decide))]; decide +kernel
  · rw [tk_kind (g 1 (by decide))]
  · rw [isT_at (g 2 (by decide))]; decide +kernel
  · rw [isT_at (g 3 (by decide))]; decide +kernel
  · rw [isT_at (g 4 (by decide))]
  · rw [isT_at g5]; exact hv
def H0 : List Pc := head6 ++ ([(sp, 1, ⟨#[120]⟩), (sp, 4, ⟨#[61]⟩)] ++ [(⟨#[32, 32]⟩, 4, ⟨#[40]⟩)])
theorem deepP0 (k : Nat) : deepP k 0 = H0 ++ (List.replicate k (sp, 4, ⟨#[40]⟩) ++ ((sp, 2, ⟨#[49]⟩) :: (List.replicate (k + 1) (sp, 4, ⟨#[41]⟩) ++ [(sp, 4, ⟨#[59]⟩), (sp, 4, ⟨#[125]⟩)]))) := by
  unfold deepP
  rw [reps_one, show headS 0 = H0 from rfl, show midP 0 = [(sp, 2, ⟨#[49]⟩)] from rfl]
  unfold tailP
  rw [if_pos (by decide), reps_one]
  simp only [List.append_assoc, List.cons_append, List.nil_append]
  rfl
theorem deep_ok0 (k : Nat) (hk : k < 50) : ∃ b, Ev fun f => pProg (lexOf (deepP k 0)) f [] 0 = okR b (deepP k 0).length := by
  have hq : ∀ j, j < k + 1 → ∀ s, isT (lexOf (deepP k 0)) (7 + j) s = isP (sp, 4, ⟨#[40]⟩) s := fun j hj s => by
    cases j with
    | zero => exact isT_at (q := (⟨#[32, 32]⟩, 4, ⟨#[40]⟩)) (by rw [deepP0, List.getElem?_append_left (by decide)]; rfl) s
    | succ j => exact isT_at (by rw [deepP0, show 7 + (j + 1) = H0.length + j from by rw [show H0.length = 8 from rfl]; omega]; exact at_rep (by omega)) s
  have hR : ∀ j, (deepP k 0)[7 + (k + 1) + j]? = ((sp, 2, ⟨#[49]⟩) :: (List.replicate (k + 1) (sp, 4, ⟨#[41]⟩) ++ [(sp, 4, ⟨#[59]⟩), (sp, 4, ⟨#[125]⟩)]))[j]? := fun j => by rw [deepP0, show 7 + (k + 1) + j = H0.length + k + j from by rw [show H0.length = 8 from rfl]; omega]; exact at_tail
  have hd : Hd (lexOf (deepP k 0)) := by
    rw [deepP0]
    unfold H0
    rw [List.append_assoc]
    exact hd_of (q := (sp, 1, ⟨#[120]⟩)) rfl (by decide +kernel)
  have x0 : (deepP k 0)[5]? = some (sp, 1, ⟨#[120]⟩) := by rw [deepP0, List.getElem?_append_left (by decide)]; rfl
  have x1 : (deepP k 0)[6]? = some (sp, 4, ⟨#[61]⟩) := by rw [deepP0, List.getElem?_append_left (by decide)]; rfl
  have x2 : (deepP k 0)[7]? = some (⟨#[32, 32]⟩, 4, ⟨#[40]⟩) := by rw [deepP0, List.getElem?_append_left (by decide)]; rfl
  have len : (deepP k 0).length = 7 + (k + 1) + 1 + (k + 1) + 2 := by rw [deepP0]; simp [H0, head6]; omega
  obtain ⟨e, h⟩ := nest_par (l := lexOf (deepP k 0)) (q := (sp, 4, ⟨#[40]⟩)) (z := (sp, 2, ⟨#[49]⟩)) (y := (sp, 4, ⟨#[41]⟩)) (by decide +kernel) (by decide +kernel) (by decide +kernel) (by decide +kernel) (k + 1) 0 7 (by omega) hq (isT_at (hR 0)) (by have := tk_kind (hR 0); rw [Nat.add_zero] at this; exact this) (fun j hj s => isT_at (q := (sp, 4, ⟨#[41]⟩)) (by rw [show 7 + (k + 1) + 1 + j = 7 + (k + 1) + (1 + j) from by omega, hR (1 + j), show 1 + j = j + 1 from by omega, List.getElem?_cons_succ, List.getElem?_append_left (by rw [List.length_replicate]; exact hj), List.getElem?_replicate, if_pos hj]) s)
  have h : Ev fun f => pE (lexOf (deepP k 0)) f .unary 0 7 = okR e (7 + (k + 1) + 1 + (k + 1)) := h
  have hj : (deepP k 0)[7 + (k + 1) + 1 + (k + 1)]? = some (sp, 4, ⟨#[59]⟩) := by
    rw [show 7 + (k + 1) + 1 + (k + 1) = 7 + (k + 1) + (1 + (k + 1)) from by omega, hR]
    rw [show 1 + (k + 1) = (k + 1) + 1 from by omega, List.getElem?_cons_succ, List.getElem?_append_right (by simp)]; simp
  have hj1 : (deepP k 0)[7 + (k + 1) + 1 + (k + 1) + 1]? = some (sp, 4, ⟨#[125]⟩) := by
    rw [show 7 + (k + 1) + 1 + (k + 1) + 1 = 7 + (k + 1) + (1 + (k + 1) + 1) from by omega, hR]
    rw [show 1 + (k + 1) + 1 = (k + 1 + 1) + 1 from by omega, List.getElem?_cons_succ, List.getElem?_append_right (by simp)]; simp
  have hs1 : ∀ s, isT (lexOf (deepP k 0)) (7 + (k + 1) + 1 + (k + 1)) s = isP (sp, 4, ⟨#[59]⟩) s := fun s => (isT_at hj s).trans rfl
  have st := stmt_set (i := 5) (up_expr h (noOp_of hs1 (by decide +kernel))) (by rw [tk_kind x0]) (by rw [isT_at x1]; decide +kernel) (by rw [isT_at x1]; decide +kernel) (.inl (by rw [tk_kind x2]; decide))
  rw [ended_fine _ (by rw [hs1]; decide +kernel)] at st
  have ss := stmts_one st (by rw [isT_at x0]; decide +kernel) (by rw [isT_at hj1]; decide +kernel)
  have := prog_okE hd ss (by rw [isT_at hj1]; decide +kernel) (by rw [show 7 + (k + 1) + 1 + (k + 1) + 1 + 1 = (deepP k 0).length from by omega]; exact lexOf_end _)
  rw [show 7 + (k + 1) + 1 + (k + 1) + 1 + 1 = (deepP k 0).length from by omega] at this
  exact ⟨_, this⟩
theorem deep_er0 (k : Nat) (hk : 50 ≤ k) : (Ev fun f => pProg (lexOf (deepP k 0)) f [] 0 = errR 5 (7 + 50) 50) ∧ (tk (lexOf (deepP k 0)) (7 + 50)).pos = (beginS 0).size + 50 * (1 + (aheadS 0).2.size) + 1 := by
  have hq : ∀ j, j < k + 1 → ∀ s, isT (lexOf (deepP k 0)) (7 + j) s = isP (sp, 4, ⟨#[40]⟩) s := fun j hj s => by
    cases j with
    | zero => exact isT_at (q := (⟨#[32, 32]⟩, 4, ⟨#[40]⟩)) (by rw [deepP0, List.getElem?_append_left (by decide)]; rfl) s
    | succ j => exact isT_at (by rw [deepP0, show 7 + (j + 1) = H0.length + j from by rw [show H0.length = 8 from rfl]; omega]; exact at_rep (by omega)) s
  have hR : ∀ j, (deepP k 0)[7 + (k + 1) + j]? = ((sp, 2, ⟨#[49]⟩) :: (List.replicate (k + 1) (sp, 4, ⟨#[41]⟩) ++ [(sp, 4, ⟨#[59]⟩), (sp, 4, ⟨#[125]⟩)]))[j]? := fun j => by rw [deepP0, show 7 + (k + 1) + j = H0.length + k + j from by rw [show H0.length = 8 from rfl]; omega]; exact at_tail
  have hd : Hd (lexOf (deepP k 0)) := by
    rw [deepP0]
    unfold H0
    rw [List.append_assoc]
    exact hd_of (q := (sp, 1, ⟨#[120]⟩)) rfl (by decide +kernel)
  have x0 : (deepP k 0)[5]? = some (sp, 1, ⟨#[120]⟩) := by rw [deepP0, List.getElem?_append_left (by decide)]; rfl
  have x1 : (deepP k 0)[6]? = some (sp, 4, ⟨#[61]⟩) := by rw [deepP0, List.getElem?_append_left (by decide)]; rfl
  have x2 : (deepP k 0)[7]? = some (⟨#[32, 32]⟩, 4, ⟨#[40]⟩) := by rw [deepP0, List.getElem?_append_left (by decide)]; rfl
  have h := nest_par_er (l := lexOf (deepP k 0)) (q := (sp, 4, ⟨#[40]⟩)) (by decide +kernel) (k + 1) 0 7 (by omega) (by omega) hq
  have h : Ev fun f => pE (lexOf (deepP k 0)) f .unary 0 7 = errR 5 (7 + 50) 50 := h
  have st := stmt_set (i := 5) (er_expr h) (by rw [tk_kind x0]) (by rw [isT_at x1]; decide +kernel) (by rw [isT_at x1]; decide +kernel) (.inl (by rw [tk_kind x2]; decide))
  refine ⟨prog_erE hd (stmts_er st (by rw [isT_at x0]; decide +kernel)), ?_⟩
  have g : (deepP k 0)[7 + 50]? = some (sp, 4, ⟨#[40]⟩) := by rw [deepP0, show 7 + 50 = H0.length + 49 from rfl]; exact at_rep (by omega)
  rw [lexOf_at g]
  simp only []
  rw [deepP0, show 7 + 50 = H0.length + 49 from rfl, take_rep (by omega), catL_app, catL_rep]
  decide +kernel
def H1 : List Pc := head6 ++ ([(sp, 1, ⟨#[120]⟩), (sp, 4, ⟨#[61]⟩)] ++ [(⟨#[32, 32]⟩, 4, ⟨#[45]⟩)])
theorem deepP1 (k : Nat) : deepP k 1 = H1 ++ (List.replicate k (sp, 4, ⟨#[45]⟩) ++ ((sp, 2, ⟨#[49]⟩) :: [(blanks (k + 2), 4, ⟨#[59]⟩), (sp, 4, ⟨#[125]⟩)])) := by
  unfold deepP
  rw [reps_one, show headS 1 = H1 from rfl, show midP 1 = [(sp, 2, ⟨#[49]⟩)] from rfl]
  unfold tailP
  rw [if_neg (by decide)]
  simp only [List.append_assoc, List.cons_append, List.nil_append]
  rfl
theorem deep_ok1 (k : Nat) (hk : k < 50) : ∃ b, Ev fun f => pProg (lexOf (deepP k 1)) f [] 0 = okR b (deepP k 1).length := by
  have hq : ∀ j, j < k + 1 → ∀ s, isT (lexOf (deepP k 1)) (7 + j) s = isP (sp, 4, ⟨#[45]⟩) s := fun j hj s => by
    cases j with
    | zero => exact isT_at (q := (⟨#[32, 32]⟩, 4, ⟨#[45]⟩)) (by rw [deepP1, List.getElem?_append_left (by decide)]; rfl) s
    | succ j => exact isT_at (by rw [deepP1, show 7 + (j + 1) = H1.length + j from by rw [show H1.length = 8 from rfl]; omega]; exact at_rep (by omega)) s
  have hR : ∀ j, (deepP k 1)[7 + (k + 1) + j]? = ((sp, 2, ⟨#[49]⟩) :: [(blanks (k + 2), 4, ⟨#[59]⟩), (sp, 4, ⟨#[125]⟩)])[j]? := fun j => by rw [deepP1, show 7 + (k + 1) + j = H1.length + k + j from by rw [show H1.length = 8 from rfl]; omega]; exact at_tail
  have hd : Hd (lexOf (deepP k 1)) := by
    rw [deepP1]
    unfold H1
    rw [List.append_assoc]
    exact hd_of (q := (sp, 1, ⟨#[120]⟩)) rfl (by decide +kernel)
  have x0 : (deepP k 1)[5]? = some (sp, 1, ⟨#[120]⟩) := by rw [deepP1, List.getElem?_append_left (by decide)]; rfl
  have x1 : (deepP k 1)[6]? = some (sp, 4, ⟨#[61]⟩) := by rw [deepP1, List.getElem?_append_left (by decide)]; rfl
  have x2 : (deepP k 1)[7]? = some (⟨#[32, 32]⟩, 4, ⟨#[45]⟩) := by rw [deepP1, List.getElem?_append_left (by decide)]; rfl
  have len : (deepP k 1).length = 7 + (k + 1) + 1 + 2 := by rw [deepP1]; simp [H1, head6]; omega
  obtain ⟨e, h⟩ := nest_neg (l := lexOf (deepP k 1)) (q := (sp, 4, ⟨#[45]⟩)) (z := (sp, 2, ⟨#[49]⟩)) (by decide +kernel) (by decide +kernel) (k + 1) 0 7 (by omega) hq (isT_at (hR 0)) (by have := tk_kind (hR 0); rw [Nat.add_zero] at this; exact this)
  have h : Ev fun f => pE (lexOf (deepP k 1)) f .unary 0 7 = okR e (7 + (k + 1) + 1) := h
  have hj : (deepP k 1)[7 + (k + 1) + 1]? = some (blanks (k + 2), 4, ⟨#[59]⟩) := by
    rw [show 7 + (k + 1) + 1 = 7 + (k + 1) + (1) from by omega, hR]
    rfl
  have hj1 : (deepP k 1)[7 + (k + 1) + 1 + 1]? = some (sp, 4, ⟨#[125]⟩) := by
    rw [show 7 + (k + 1) + 1 + 1 = 7 + (k + 1) + (1 + 1) from by omega, hR]
    rfl
  have hs1 : ∀ s, isT (lexOf (deepP k 1)) (7 + (k + 1) + 1) s = isP (sp, 4, ⟨#[59]⟩) s := fun s => (isT_at hj s).trans rfl
  have st := stmt_set (i := 5) (up_expr h (noOp_of hs1 (by decide +kernel))) (by rw [tk_kind x0]) (by rw [isT_at x1]; decide +kernel) (by rw [isT_at x1]; decide +kernel) (.inl (by rw [tk_kind x2]; decide))
  rw [ended_fine _ (by rw [hs1]; decide +kernel)] at st
  have ss := stmts_one st (by rw [isT_at x0]; decide +kernel) (by rw [isT_at hj1]; decide +kernel)
  have := prog_okE hd ss (by rw [isT_at hj1]; decide +kernel) (by rw [show 7 + (k + 1) + 1 + 1 + 1 = (deepP k 1).length from by omega]; exact lexOf_end _)
  rw [show 7 + (k + 1) + 1 + 1 + 1 = (deepP k 1).length from by omega] at this
  exact ⟨_, this⟩
theorem deep_er1 (k : Nat) (hk : 50 ≤ k) : (Ev fun f => pProg (lexOf (deepP k 1)) f [] 0 = errR 5 (7 + 50) 50) ∧ (tk (lexOf (deepP k 1)) (7 + 50)).pos = (beginS 1).size + 50 * (1 + (aheadS 1).2.size) + 1 := by
  have hq : ∀ j, j < k + 1 → ∀ s, isT (lexOf (deepP k 1)) (7 + j) s = isP (sp, 4, ⟨#[45]⟩) s := fun j hj s => by
    cases j with
    | zero => exact isT_at (q := (⟨#[32, 32]⟩, 4, ⟨#[45]⟩)) (by rw [deepP1, List.getElem?_append_left (by decide)]; rfl) s
    | succ j => exact isT_at (by rw [deepP1, show 7 + (j + 1) = H1.length + j from by rw [show H1.length = 8 from rfl]; omega]; exact at_rep (by omega)) s
  have hR : ∀ j, (deepP k 1)[7 + (k + 1) + j]? = ((sp, 2, ⟨#[49]⟩) :: [(blanks (k + 2), 4, ⟨#[59]⟩), (sp, 4, ⟨#[125]⟩)])[j]? := fun j => by rw [deepP1, show 7 + (k + 1) + j = H1.length + k + j from by rw [show H1.length = 8 from rfl]; omega]; exact at_tail
  have hd : Hd (lexOf (deepP k 1)) := by
    rw [deepP1]
    unfold H1
    rw [List.append_assoc]
    exact hd_of (q := (sp, 1, ⟨#[120]⟩)) rfl (by decide +kernel)
  have x0 : (deepP k 1)[5]? = some (sp, 1, ⟨#[120]⟩) := by rw [deepP1, List.getElem?_append_left (by decide)]; rfl
  have x1 : (deepP k 1)[6]? = some (sp, 4, ⟨#[61]⟩) := by rw [deepP1, List.getElem?_append_left (by decide)]; rfl
  have x2 : (deepP k 1)[7]? = some (⟨#[32, 32]⟩, 4, ⟨#[45]⟩) := by rw [deepP1, List.getElem?_append_left (by decide)]; rfl
  have h := nest_neg_er (l := lexOf (deepP k 1)) (q := (sp, 4, ⟨#[45]⟩)) (by decide +kernel) (k + 1) 0 7 (by omega) (by omega) hq
  have h : Ev fun f => pE (lexOf (deepP k 1)) f .unary 0 7 = errR 5 (7 + 50) 50 := h
  have st := stmt_set (i := 5) (er_expr h) (by rw [tk_kind x0]) (by rw [isT_at x1]; decide +kernel) (by rw [isT_at x1]; decide +kernel) (.inl (by rw [tk_kind x2]; decide))
  refine ⟨prog_erE hd (stmts_er st (by rw [isT_at x0]; decide +kernel)), ?_⟩
  have g : (deepP k 1)[7 + 50]? = some (sp, 4, ⟨#[45]⟩) := by rw [deepP1, show 7 + 50 = H1.length + 49 from rfl]; exact at_rep (by omega)
  rw [lexOf_at g]
  simp only []
  rw [deepP1, show 7 + 50 = H1.length + 49 from rfl, take_rep (by omega), catL_app, catL_rep]
  decide +kernel
def H2 : List Pc := head6 ++ ([(sp, 3, kAssume)] ++ [(⟨#[32, 32]⟩, 3, ⟨#[110, 111, 116]⟩)])
theorem deepP2 (k : Nat) : deepP k 2 = H2 ++ (List.replicate k (sp, 3, ⟨#[110, 111, 116]⟩) ++ ((sp, 3, tTrue) :: [(blanks (k + 2), 4, ⟨#[59]⟩), (sp, 4, ⟨#[125]⟩)])) := by
  unfold deepP
  rw [reps_one, show headS 2 = H2 from rfl, show midP 2 = [(sp, 3, tTrue)] from rfl]
  unfold tailP
  rw [if_neg (by decide)]
  simp only [List.append_assoc, List.cons_append, List.nil_append]
  rfl
theorem deep_ok2 (k : Nat) (hk : k < 50) : ∃ b, Ev fun f => pProg (lexOf (deepP k 2)) f [] 0 = okR b (deepP k 2).length := by
  have hq : ∀ j, j < k + 1 → ∀ s, isT (lexOf (deepP k 2)) (6 + j) s = isP (sp, 3, ⟨#[110, 111, 116]⟩) s := fun j hj s => by
    cases j with
    | zero => exact isT_at (q := (⟨#[32, 32]⟩, 3, ⟨#[110, 111, 116]⟩)) (by rw [deepP2, List.getElem?_append_left (by decide)]; rfl) s
    | succ j => exact isT_at (by rw [deepP2, show 6 + (j + 1) = H2.length + j from by rw [show H2.length = 7 from rfl]; omega]; exact at_rep (by omega)) s
  have hR : ∀ j, (deepP k 2)[6 + (k + 1) + j]? = ((sp, 3, tTrue) :: [(blanks (k + 2), 4, ⟨#[59]⟩), (sp, 4, ⟨#[125]⟩)])[j]? := fun j => by rw [deepP2, show 6 + (k + 1) + j = H2.length + k + j from by rw [show H2.length = 7 from rfl]; omega]; exact at_tail
  have hd : Hd (lexOf (deepP k 2)) := by
    rw [deepP2]
    unfold H2
    rw [List.append_assoc]
    exact hd_of (q := (sp, 3, kAssume)) rfl (by decide +kernel)
  have x0 : (deepP k 2)[5]? = some (sp, 3, kAssume) := by rw [deepP2, List.getElem?_append_left (by decide)]; rfl
  have len : (deepP k 2).length = 6 + (k + 1) + 1 + 2 := by rw [deepP2]; simp [H2, head6]; omega
  obtain ⟨e, h⟩ := nest_not (l := lexOf (deepP k 2)) (q := (sp, 3, ⟨#[110, 111, 116]⟩)) (z := (sp, 3, tTrue)) (by decide +kernel) (by decide +kernel) (k + 1) 0 6 (by omega) hq (isT_at (hR 0))
  have h : Ev fun f => pE (lexOf (deepP k 2)) f .lit 0 6 = okR e (6 + (k + 1) + 1) := h
  have hj : (deepP k 2)[6 + (k + 1) + 1]? = some (blanks (k + 2), 4, ⟨#[59]⟩) := by
    rw [show 6 + (k + 1) + 1 = 6 + (k + 1) + (1) from by omega, hR]
    rfl
  have hj1 : (deepP k 2)[6 + (k + 1) + 1 + 1]? = some (sp, 4, ⟨#[125]⟩) := by
    rw [show 6 + (k + 1) + 1 + 1 = 6 + (k + 1) + (1 + 1) from by omega, hR]
    rfl
  have hs1 : ∀ s, isT (lexOf (deepP k 2)) (6 + (k + 1) + 1) s = isP (sp, 4, ⟨#[59]⟩) s := fun s => (isT_at hj s).trans rfl
  have st := stmt_assume (i := 5) (up_cond h (noOp_of hs1 (by decide +kernel))) (by rw [tk_kind x0]) (isT_at x0) (by decide +kernel)
  rw [ended_fine _ (by rw [hs1]; decide +kernel)] at st
  have ss := stmts_one st (by rw [isT_at x0]; decide +kernel) (by rw [isT_at hj1]; decide +kernel)
  have := prog_okE hd ss (by rw [isT_at hj1]; decide +kernel) (by rw [show 6 + (k + 1) + 1 + 1 + 1 = (deepP k 2).length from by omega]; exact lexOf_end _)
  rw [show 6 + (k + 1) + 1 + 1 + 1 = (deepP k 2).length from by omega] at this
  exact ⟨_, this⟩
theorem deep_er2 (k : Nat) (hk : 50 ≤ k) : (Ev fun f => pProg (lexOf (deepP k 2)) f [] 0 = errR 5 (6 + 50) 50) ∧ (tk (lexOf (deepP k 2)) (6 + 50)).pos = (beginS 2).size + 50 * (1 + (aheadS 2).2.size) + 1 := by
  have hq : ∀ j, j < k + 1 → ∀ s, isT (lexOf (deepP k 2)) (6 + j) s = isP (sp, 3, ⟨#[110, 111, 116]⟩) s := fun j hj s => by
    cases j with
    | zero => exact isT_at (q := (⟨#[32, 32]⟩, 3, ⟨#[110, 111, 116]⟩)) (by rw [deepP2, List.getElem?_append_left (by decide)]; rfl) s
    | succ j => exact isT_at (by rw [deepP2, show 6 + (j + 1) = H2.length + j from by rw [show H2.length = 7 from rfl]; omega]; exact at_rep (by omega)) s
  have hR : ∀ j, (deepP k 2)[6 + (k + 1) + j]? = ((sp, 3, tTrue) :: [(blanks (k + 2), 4, ⟨#[59]⟩), (sp, 4, ⟨#[125]⟩)])[j]? := fun j => by rw [deepP2, show 6 + (k + 1) + j = H2.length + k + j from by rw [show H2.length = 7 from rfl]; omega]; exact at_tail
  have hd : Hd (lexOf (deepP k 2)) := by
    rw [deepP2]
    unfold H2
    rw [List.append_assoc]
    exact hd_of (q := (sp, 3, kAssume)) rfl (by decide +kernel)
  have x0 : (deepP k 2)[5]? = some (sp, 3, kAssume) := by rw [deepP2, List.getElem?_append_left (by decide)]; rfl
  have h := nest_not_er (l := lexOf (deepP k 2)) (q := (sp, 3, ⟨#[110, 111, 116]⟩)) (by decide +kernel) (k + 1) 0 6 (by omega) (by omega) hq
  have h : Ev fun f => pE (lexOf (deepP k 2)) f .lit 0 6 = errR 5 (6 + 50) 50 := h
  have st := stmt_assume (i := 5) (er_cond h) (by rw [tk_kind x0]) (isT_at x0) (by decide +kernel)
  refine ⟨prog_erE hd (stmts_er st (by rw [isT_at x0]; decide +kernel)), ?_⟩
  have g : (deepP k 2)[6 + 50]? = some (sp, 3, ⟨#[110, 111, 116]⟩) := by rw [deepP2, show 6 + 50 = H2.length + 49 from rfl]; exact at_rep (by omega)
  rw [lexOf_at g]
  simp only []
  rw [deepP2, show 6 + 50 = H2.length + 49 from rfl, take_rep (by omega), catL_app, catL_rep]
  decide +kernel
def H3 : List Pc := head6 ++ ([(sp, 3, kAssume)] ++ [(⟨#[32, 32]⟩, 4, ⟨#[91]⟩)])
theorem deepP3 (k : Nat) : deepP k 3 = H3 ++ (List.replicate k (sp, 4, ⟨#[91]⟩) ++ ((sp, 3, tTrue) :: (List.replicate (k + 1) (sp, 4, ⟨#[93]⟩) ++ [(sp, 4, ⟨#[59]⟩), (sp, 4, ⟨#[125]⟩)]))) := by
  unfold deepP
  rw [reps_one, show headS 3 = H3 from rfl, show midP 3 = [(sp, 3, tTrue)] from rfl]
  unfold tailP
  rw [if_pos (by decide), reps_one]
  simp only [List.append_assoc, List.cons_append, List.nil_append]
  rfl
theorem deep_ok3 (k : Nat) (hk : k < 50) : ∃ b, Ev fun f => pProg (lexOf (deepP k 3)) f [] 0 = okR b (deepP k 3).length := by
  have hq : ∀ j, j < k + 1 → ∀ s, isT (lexOf (deepP k 3)) (6 + j) s = isP (sp, 4, ⟨#[91]⟩) s := fun j hj s => by
    cases j with
    | zero => exact isT_at (q := (⟨#[32, 32]⟩, 4, ⟨#[91]⟩)) (by rw [deepP3, List.getElem?_append_left (by decide)]; rfl) s
    | succ j => exact isT_at (by rw [deepP3, show 6 + (j + 1) = H3.length + j from by rw [show H3.length = 7 from rfl]; omega]; exact at_rep (by omega)) s
  have hR : ∀ j, (deepP k 3)[6 + (k + 1) + j]? = ((sp, 3, tTrue) :: (List.replicate (k + 1) (sp, 4, ⟨#[93]⟩) ++ [(sp, 4, ⟨#[59]⟩), (sp, 4, ⟨#[125]⟩)]))[j]? := fun j => by rw [deepP3, show 6 + (k + 1) + j = H3.length + k + j from by rw [show H3.length = 7 from rfl]; omega]; exact at_tail
  have hd : Hd (lexOf (deepP k 3)) := by
    rw [deepP3]
    unfold H3
    rw [List.append_assoc]
    exact hd_of (q := (sp, 3, kAssume)) rfl (by decide +kernel)
  have x0 : (deepP k 3)[5]? = some (sp, 3, kAssume) := by rw [deepP3, List.getElem?_append_left (by decide)]; rfl
  have len : (deepP k 3).length = 6 + (k + 1) + 1 + (k + 1) + 2 := by rw [deepP3]; simp [H3, head6]; omega
  obtain ⟨e, h⟩ := nest_sq (l := lexOf (deepP k 3)) (q := (sp, 4, ⟨#[91]⟩)) (z := (sp, 3, tTrue)) (y := (sp, 4, ⟨#[93]⟩)) (by decide +kernel) (by decide +kernel) (by decide +kernel) (by decide +kernel) (k + 1) 0 6 (by omega) hq (isT_at (hR 0)) (fun j hj s => isT_at (q := (sp, 4, ⟨#[93]⟩)) (by rw [show 6 + (k + 1) + 1 + j = 6 + (k + 1) + (1 + j) from by omega, hR (1 + j), show 1 + j = j + 1 from by omega, List.getElem?_cons_succ, List.getElem?_append_left (by rw [List.length_replicate]; exact hj), List.getElem?_replicate, if_pos hj]) s)
  have h : Ev fun f => pE (lexOf (deepP k 3)) f .lit 0 6 = okR e (6 + (k + 1) + 1 + (k + 1)) := h
  have hj : (deepP k 3)[6 + (k + 1) + 1 + (k + 1)]? = some (sp, 4, ⟨#[59]⟩) := by
    rw [show 6 + (k + 1) + 1 + (k + 1) = 6 + (k + 1) + (1 + (k + 1)) from by omega, hR]
    rw [show 1 + (k + 1) = (k + 1) + 1 from by omega, List.getElem?_cons_succ, List.getElem?_append_right (by simp)]; simp
  have hj1 : (deepP k 3)[6 + (k + 1) + 1 + (k + 1) + 1]? = some (sp, 4, ⟨#[125]⟩) := by
    rw [show 6 + (k + 1) + 1 + (k + 1) + 1 = 6 + (k + 1) + (1 + (k + 1) + 1) from by omega, hR]
    rw [show 1 + (k + 1) + 1 = (k + 1 + 1) + 1 from by omega, List.getElem?_cons_succ, List.getElem?_append_right (by simp)]; simp
  have hs1 : ∀ s, isT (lexOf (deepP k 3)) (6 + (k + 1) + 1 + (k + 1)) s = isP (sp, 4, ⟨#[59]⟩) s := fun s => (isT_at hj s).trans rfl
  have st := stmt_assume (i := 5) (up_cond h (noOp_of hs1 (by decide +kernel))) (by rw [tk_kind x0]) (isT_at x0) (by decide +kernel)
  rw [ended_fine _ (by rw [hs1]; decide +kernel)] at st
  have ss := stmts_one st (by rw [isT_at x0]; decide +kernel) (by rw [isT_at hj1]; decide +kernel)
  have := prog_okE hd ss (by rw [isT_at hj1]; decide +kernel) (by rw [show 6 + (k + 1) + 1 + (k + 1) + 1 + 1 = (deepP k 3).length from by omega]; exact lexOf_end _)
  rw [show 6 + (k + 1) + 1 + (k + 1) + 1 + 1 = (deepP k 3).length from by omega] at this
  exact ⟨_, this⟩
theorem deep_er3 (k : Nat) (hk : 50 ≤ k) : (Ev fun f => pProg (lexOf (deepP k 3)) f [] 0 = errR 5 (6 + 50) 50) ∧ (tk (lexOf (deepP k 3)) (6 + 50)).pos = (beginS 3).size + 50 * (1 + (aheadS 3).2.size) + 1 := by
  have hq : ∀ j, j < k + 1 → ∀ s, isT (lexOf (deepP k 3)) (6 + j) s = isP (sp, 4, ⟨#[91]⟩) s := fun j hj s => by
    cases j with
    | zero => exact isT_at (q := (⟨#[32, 32]⟩, 4, ⟨#[91]⟩)) (by rw [deepP3, List.getElem?_append_left (by decide)]; rfl) s
    | succ j => exact isT_at (by rw [deepP3, show 6 + (j + 1) = H3.length + j from by rw [show H3.length = 7 from rfl]; omega]; exact at_rep (by omega)) s
  have hR : ∀ j, (deepP k 3)[6 + (k + 1) + j]? = ((sp, 3, tTrue) :: (List.replicate (k + 1) (sp, 4, ⟨#[93]⟩) ++ [(sp, 4, ⟨#[59]⟩), (sp, 4, ⟨#[125]⟩)]))[j]? := fun j => by rw [deepP3, show 6 + (k + 1) + j = H3.length + k + j from by rw [show H3.length = 7 from rfl]; omega]; exact at_tail
  have hd : Hd (lexOf (deepP k 3)) := by
    rw [deepP3]
    unfold H3
    rw [List.append_assoc]
    exact hd_of (q := (sp, 3, kAssume)) rfl (by decide +kernel)
  have x0 : (deepP k 3)[5]? = some (sp, 3, kAssume) := by rw [deepP3, List.getElem?_append_left (by decide)]; rfl
  have h := nest_sq_er (l := lexOf (deepP k 3)) (q := (sp, 4, ⟨#[91]⟩)) (by decide +kernel) (k + 1) 0 6 (by omega) (by omega) hq
  have h : Ev fun f => pE (lexOf (deepP k 3)) f .lit 0 6 = errR 5 (6 + 50) 50 := h
  have st := stmt_assume (i := 5) (er_cond h) (by rw [tk_kind x0]) (isT_at x0) (by decide +kernel)
  refine ⟨prog_erE hd (stmts_er st (by rw [isT_at x0]; decide +kernel)), ?_⟩
  have g : (deepP k 3)[6 + 50]? = some (sp, 4, ⟨#[91]⟩) := by rw [deepP3, show 6 + 50 = H3.length + 49 from rfl]; exact at_rep (by omega)
  rw [lexOf_at g]
  simp only []
  rw [deepP3, show 6 + 50 = H3.length + 49 from rfl, take_rep (by omega), catL_app, catL_rep]
  decide +kernel
theorem deep_out {w k : Nat} (hw : w < 4) (hk : k < 60) (hs : catL (deepP k w) ≤ 8192) (ok : k < 50 → ∃ b, Ev fun f => pProg (lexOf (deepP k w)) f [] 0 = okR b (deepP k w).length) {B : Nat} (er : 50 ≤ k → (Ev fun f => pProg (lexOf (deepP k w)) f [] 0 = errR 5 (B + 50) 50) ∧ (tk (lexOf (deepP k w)) (B + 50)).pos = (beginS w).size + 50 * (1 + (aheadS w).2.size) + 1) :
    (progR (deepT (k + 1) w)).2 = if k < 50 then (0, 0) else (5, (((beginS w).size + 50 * (1 + (aheadS w).2.size) + 1 : Nat) : Int)) := by
  rw [deepT_cat k w hw]
  by_cases h : k < 50
  · obtain ⟨b, e⟩ := ok h
    rw [if_pos h, progR_ev (deepP_val k w hw) hs e]; rfl
  · obtain ⟨e, p⟩ := er (by omega)
    rw [if_neg h, progR_ev (deepP_val k w hw) hs e]
    show ((5 : Int), ((tk (lexOf (deepP k w)) (B + 50)).pos : Int)) = _
    rw [p]
theorem deep_prog {w k : Nat} (hw : w < 4) (hk : k < 60) : (progR (deepT (k + 1) w)).2 = if k < 50 then (0, 0) else (5, (((beginS w).size + 50 * (1 + (aheadS w).2.size) + 1 : Nat) : Int)) := by
  match w, hw with
  | 0, hw =>
    refine deep_out hw hk ?_ (deep_ok0 k) (deep_er0 k)
    rw [deepP0]
    simp only [catL_app, catL, catL_rep, ByteArray.size, blanks, List.size_toArray, List.length_replicate]
    rw [show catL H0 = 19 from by decide +kernel]
    simp [sp, tTrue]
    omega
  | 1, hw =>
    refine deep_out hw hk ?_ (deep_ok1 k) (deep_er1 k)
    rw [deepP1]
    simp only [catL_app, catL, catL_rep, ByteArray.size, blanks, List.size_toArray, List.length_replicate]
    rw [show catL H1 = 19 from by decide +kernel]
    simp [sp, tTrue]
    omega
  | 2, hw =>
    refine deep_out hw hk ?_ (deep_ok2 k) (deep_er2 k)
    rw [deepP2]
    simp only [catL_app, catL, catL_rep, ByteArray.size, blanks, List.size_toArray, List.length_replicate]
    rw [show catL H2 = 24 from by decide +kernel]
    simp [sp, tTrue]
    omega
  | 3, hw =>
    refine deep_out hw hk ?_ (deep_ok3 k) (deep_er3 k)
    rw [deepP3]
    simp only [catL_app, catL, catL_rep, ByteArray.size, blanks, List.size_toArray, List.length_replicate]
    rw [show catL H3 = 22 from by decide +kernel]
    simp [sp, tTrue]
    omega
theorem blockP_eq (k : Nat) : blockP k = head6 ++ (reps [(sp, 3, kWhile), (sp, 4, ⟨#[42]⟩), (sp, 4, ⟨#[123]⟩)] k ++ List.replicate (k + 1) (sp, 4, ⟨#[125]⟩)) := by
  unfold blockP
  rw [reps_one, List.append_assoc]
theorem reps3_at (a b c : Pc) (R : List Pc) : ∀ (k j : Nat), j < k → (reps [a, b, c] k ++ R)[3 * j]? = some a ∧ (reps [a, b, c] k ++ R)[3 * j + 1]? = some b ∧ (reps [a, b, c] k ++ R)[3 * j + 2]? = some c
  | 0, j, h => by omega
  | k + 1, 0, h => ⟨rfl, rfl, rfl⟩
  | k + 1, j + 1, h => by
    have := reps3_at a b c R k j (by omega)
    simp only [reps, List.cons_append, List.nil_append]
    rw [show 3 * (j + 1) = 3 * j + 1 + 1 + 1 from by omega, show 3 * j + 1 + 1 + 1 + 1 = 3 * j + 1 + 1 + 1 + 1 from rfl]
    simpa only [List.getElem?_cons_succ] using this
theorem reps3_len (a b c : Pc) : ∀ k, (reps [a, b, c] k).length = 3 * k
  | 0 => rfl
  | k + 1 => by simp only [reps, List.length_append, reps3_len a b c k, List.length_cons, List.length_nil]; omega
theorem reps3_catL (a b c : Pc) : ∀ k, catL (reps [a, b, c] k) = k * catL [a, b, c]
  | 0 => by simp [reps, catL]
  | k + 1 => by rw [reps, catL_app, reps3_catL a b c k, Nat.succ_mul]; omega
theorem reps3_take (a b c : Pc) (R : List Pc) : ∀ (k j : Nat), j < k → (reps [a, b, c] k ++ R).take (3 * j + 2) = reps [a, b, c] j ++ [a, b]
  | 0, j, h => by omega
  | k + 1, 0, h => rfl
  | k + 1, j + 1, h => by
    have := reps3_take a b c R k j (by omega)
    rw [show 3 * (j + 1) + 2 = (3 * j + 2) + 1 + 1 + 1 from by omega]
    simp only [reps, List.cons_append, List.nil_append, List.take_succ_cons, this]
section
variable (k : Nat)
theorem bl_wh (j : Nat) (hj : j < k) : Wh (lexOf (blockP k)) (5 + 3 * j) := by
  have g : ∀ i, (blockP k)[5 + i]? = (reps [(sp, 3, kWhile), (sp, 4, ⟨#[42]⟩), (sp, 4, ⟨#[123]⟩)] k ++ List.replicate (k + 1) (sp, 4, ⟨#[125]⟩))[i]? := fun i => by
    rw [blockP_eq, List.getElem?_append_right (by show 5 ≤ 5 + i; omega), show 5 + i - head6.length = i from by show 5 + i - 5 = i; omega]
  obtain ⟨h1, h2, h3⟩ := reps3_at (sp, 3, kWhile) (sp, 4, ⟨#[42]⟩) (sp, 4, ⟨#[123]⟩) (List.replicate (k + 1) (sp, 4, ⟨#[125]⟩)) k j hj
  rw [← g] at h1 h2 h3
  exact ⟨isT_at h1, tk_kind h1, isT_at (by rw [Nat.add_assoc]; exact h2), isT_at (by rw [Nat.add_assoc]; exact h3)⟩
theorem bl_end (j : Nat) (hj : j < k + 1) : (blockP k)[5 + 3 * k + j]? = some (sp, 4, ⟨#[125]⟩) := by
  rw [blockP_eq, List.getElem?_append_right (by show 5 ≤ _; omega), show 5 + 3 * k + j - head6.length = 3 * k + j from by show 5 + 3 * k + j - 5 = _; omega, List.getElem?_append_right (by rw [reps3_len]; omega), reps3_len, show 3 * k + j - 3 * k = j from by omega]
  simp [hj]
theorem bl_hd : Hd (lexOf (blockP k)) := by
  rw [blockP_eq]
  cases k with
  | zero => exact hd_of (q := (sp, 4, ⟨#[125]⟩)) rfl (by decide +kernel)
  | succ k => exact hd_of (q := (sp, 3, kWhile)) rfl (by decide +kernel)
theorem block_prog (hk : k < 61) : (progR (blockT k)).2 = if k ≤ 50 then (0, 0) else (5, 521) := by
  rw [blockT_cat]
  have hs : catL (blockP k) ≤ 8192 := by
    rw [blockP_eq, catL_app, catL_app, reps3_catL, catL_rep, show catL head6 = 12 from by decide +kernel, show catL [(sp, 3, kWhile), (sp, 4, ⟨#[42]⟩), (sp, 4, ⟨#[123]⟩)] = 10 from by decide +kernel]
    simp only [show sp.size = 1 from rfl, show (⟨#[125]⟩ : ByteArray).size = 1 from rfl]
    omega
  have len : (blockP k).length = 5 + 4 * k + 1 := by rw [blockP_eq]; simp only [List.length_append, reps3_len, List.length_replicate]; show 5 + _ = _; omega
  by_cases h : k ≤ 50
  · obtain ⟨b, e⟩ := nest_wh (l := lexOf (blockP k)) k 0 5 (by omega) (fun j hj => bl_wh k j hj) (fun j hj => by rw [isT_at (bl_end k j (by omega))]; decide +kernel)
    have g := bl_end k k (by omega)
    rw [show 5 + 3 * k + k = 5 + 4 * k from by omega] at g
    have := prog_okE (bl_hd k) e (by rw [isT_at g]; decide +kernel) (by rw [← len]; exact lexOf_end _)
    rw [if_pos h, progR_ev (blockP_val k) hs this]; rfl
  · have e := nest_wh_er (l := lexOf (blockP k)) k 0 5 (by omega) (by omega) (fun j hj => bl_wh k j hj)
    have := prog_erE (bl_hd k) e
    rw [if_neg h, progR_ev (blockP_val k) hs this]
    show ((5 : Int), ((tk (lexOf (blockP k)) (5 + 3 * (50 - 0) + 2)).pos : Int)) = _
    have g := (bl_wh k 50 (by omega))
    have g2 : (blockP k)[5 + 3 * (50 - 0) + 2]? = some (sp, 4, ⟨#[123]⟩) := by
      rw [blockP_eq, List.getElem?_append_right (by decide)]
      exact (reps3_at (sp, 3, kWhile) (sp, 4, ⟨#[42]⟩) (sp, 4, ⟨#[123]⟩) (List.replicate (k + 1) (sp, 4, ⟨#[125]⟩)) k 50 (by omega)).2.2
    rw [lexOf_at g2]
    simp only []
    rw [blockP_eq, List.take_append, List.take_of_length_le (by decide), show 5 + 3 * (50 - 0) + 2 - head6.length = 3 * 50 + 2 from rfl, reps3_take _ _ _ _ _ _ (by omega), catL_app, catL_app, reps3_catL]
    rw [show catL head6 = 12 from by decide +kernel, show catL [(sp, 3, kWhile), (sp, 4, ⟨#[42]⟩), (sp, 4, ⟨#[123]⟩)] = 10 from by decide +kernel, show catL [(sp, 3, kWhile), (sp, 4, ⟨#[42]⟩)] = 8 from by decide +kernel]
    rfl
end
end Go.Proofs.Hk

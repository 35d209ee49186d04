import Derived.Test.YtmgcmljldggllaaN11
import Derived.Test.YtmgcmljldggllaaH25
set_option linter.unusedSimpArgs false
set_option linter.unusedVariables false
namespace Go.Proofs.Hk
open Go Go.Proofs

def gi0 : GI := ⟨false, []⟩
def LIs (l : List GI) : HV := .list .no 2 (l.map encI)
/-- A number of at most forty limbs. -/
structure Sm (g : GI) : Prop where
  lim : Lim g.l
  len : g.l.length ≤ 40
theorem Sm.ok {g : GI} (h : Sm g) : g.Ok := ⟨h.lim, by have := h.len; omega⟩
theorem sm0 : Sm gi0 := ⟨Lim.nil, by decide⟩
theorem toZ_ofZ (z : Int) : toZ (ofZ z) = z := by
  have hm : (ofZ z).may = true := by
    unfold GI.may
    cases h : (ofZ z).l.getLast? with
    | none =>
      have : nl z.natAbs = [] := List.getLast?_eq_none_iff.1 h
      have v := vl_nl z.natAbs
      rw [this] at v
      have : z = 0 := by simp [vl] at v; omega
      subst this; rfl
    | some x => simpa using nl_top z.natAbs x h
  unfold toZ
  rw [if_pos hm]
  show sg (decide (z < 0)) (vl (nl z.natAbs)) = z
  rw [vl_nl]
  unfold sg
  by_cases hz : z < 0
  · rw [if_pos (decide_eq_true hz)]; omega
  · rw [if_neg (by simpa using hz)]; omega
theorem toZ_gi0 : toZ gi0 = 0 := by simp [toZ, gi0, GI.may, sg, vl]
theorem ofZ_ok {z : Int} {n : Nat} (h : z.natAbs < B ^ n) (hn : n ≤ 1000000) : (ofZ z).Ok ∧ (ofZ z).l.length ≤ 1000000 := by
  have : (nl z.natAbs).length ≤ n := nl_len_lt h
  exact ⟨⟨nl_lim _, (show (nl z.natAbs).length ≤ _ by omega)⟩, (show (nl z.natAbs).length ≤ _ by omega)⟩
theorem Sm.lt {g : GI} (h : Sm g) : (toZ g).natAbs < B ^ 40 := Nat.lt_of_lt_of_le (abs_len h.ok) (Nat.pow_le_pow_right B_pos h.len)
def psum (f : Nat → Int) : Nat → Int
  | 0 => 0
  | n + 1 => psum f n + f n
theorem psum_le {f : Nat → Int} {M : Nat} : ∀ {n : Nat}, (∀ j, j < n → (f j).natAbs ≤ M) → (psum f n).natAbs ≤ n * M
  | 0, _ => by simp [psum]
  | n + 1, h => by
    have h1 := psum_le (n := n) fun j hj => h j (by omega)
    have h2 := h n (by omega)
    simp only [psum]
    rw [Nat.succ_mul]
    omega
def dotF (a b : List GI) (j : Nat) : Int := toZ (a.getD j gi0) * toZ (b.getD j gi0)
def dotZ (a b : List GI) : Int := psum (dotF a b) a.length
theorem sm_getD {a : List GI} (h : ∀ g ∈ a, Sm g) (j : Nat) : Sm (a.getD j gi0) := by
  rw [List.getD_eq_getElem?_getD]
  cases e : a[j]? with
  | none => exact sm0
  | some g => exact h g (List.mem_of_getElem? e)
theorem dotF_le {a b : List GI} (ha : ∀ g ∈ a, Sm g) (hb : ∀ g ∈ b, Sm g) (j : Nat) : (dotF a b j).natAbs ≤ B ^ 80 := by
  unfold dotF
  rw [Int.natAbs_mul, show (80 : Nat) = 40 + 40 from rfl, Nat.pow_add]
  exact Nat.mul_le_mul (Nat.le_of_lt (sm_getD ha j).lt) (Nat.le_of_lt (sm_getD hb j).lt)
theorem psum_lt {a b : List GI} (ha : ∀ g ∈ a, Sm g) (hb : ∀ g ∈ b, Sm g) {n : Nat} (hn : n ≤ 60) : (psum (dotF a b) n).natAbs ≤ 60 * B ^ 80 :=
  Nat.le_trans (psum_le fun j _ => dotF_le ha hb j) (Nat.mul_le_mul_right _ hn)
theorem B82 {z : Int} {k : Nat} (h : z.natAbs ≤ k * B ^ 80) (hk : k ≤ 1000) : z.natAbs < B ^ 82 := by
  rw [show (82 : Nat) = 80 + 2 from rfl, Nat.pow_add, Nat.mul_comm]
  have h1 : k * B ^ 80 ≤ 1000 * B ^ 80 := Nat.mul_le_mul_right _ hk
  have h2 : 1001 * B ^ 80 ≤ B ^ 2 * B ^ 80 := Nat.mul_le_mul_right _ (by decide)
  have h3 := Bp 80
  omega
theorem getD_int {l : List GI} {k : Int} {n : Nat} (hk : k = n) (h : n < l.length) : (l.map encI).getD k.toNat default = encP (l.getD n gi0).neg (l.getD n gi0).l := by
  subst hk
  simp [List.getD_eq_getElem?_getD, h, encI]

theorem dot_spec (a b : List GI) (hab : a.length = b.length) (ha : ∀ g ∈ a, Sm g) (hb : ∀ g ∈ b, Sm g) (hn : a.length ≤ 60) : Pur cx 43 [LIs a, LIs b] (encI (ofZ (dotZ a b))) := by
  have ma : (a.map encI).length = a.length := by simp
  have mb : (b.map encI).length = b.length := by simp
  refine Pur.of (sem_calls' cx (fn := Try.f43) rfl rfl rfl rfl ?_)
  repeat' first | refine Ops.tag rfl ?_ | (refine OpsT.go ?_; (conv => arg 7; whnf)) | refine Stp.pure rfl ?_ | refine PutK.mk' rfl ?_ | refine Ops.nil ?_ | ((with_reducible refine SemWp.id ?_); first | refine sem_seq ?_ | refine sem_region rfl ?_ | refine sem_block ?_) | ((with_reducible refine qThen.id ?_); first | refine qThen.go ?_) | refine Stp.eff ?_ | (refine newN (fun r hr => ?_); simp only [keys, List.nil_append, List.cons_append, List.map_cons, List.map_nil, List.mem_cons, List.not_mem_nil, not_or, or_false, not_false_eq_true] at hr)
  rename_i r0 h0
  refine sem_wkCell cx r [bb false, LL []] HPick.hit (.cons (.refl _) rfl (.cons (Weaker.nil 1) rfl .nil)) ?_
  refine sem_loop cx (ι := Nat) (fun i => i ≤ a.length) (fun i => [(0, .sure, LIs a), (1, .sure, LIs b), (4, .sure, .ptr r0 0), (5, .sure, .ptr r 0), (8, .sure, ii a.length), (9, .sure, ii i)]) (fun i => [(r, .cells [bb (ofZ (psum (dotF a b) i)).neg, LL (ofZ (psum (dotF a b) i)).l] 40), (r0, .cells [bb false, .v (.slice none 0 0)] 40)]) (fun i => a.length - i) 0 (Nat.zero_le _) (by repeat' first | exact Sub.nil _ | refine Sub.auto ?_) (Subp.of_eq (by show _ = [(r, Res.cells [bb (ofZ 0).neg, LL (ofZ 0).l] 40), _]; rw [ofZ_zero]; rfl)) ?_
  intro i hi
  by_cases hia : i < a.length
  · have g1 : (a.map encI).getD (i : Int).toNat default = encP (a.getD i gi0).neg (a.getD i gi0).l := getD_int (n := i) rfl hia
    have g2 : (b.map encI).getD (i : Int).toNat default = encP (b.getD i gi0).neg (b.getD i gi0).l := getD_int (n := i) rfl (by omega)
    have M := Mul_spec (a.getD i gi0) (b.getD i gi0) (sm_getD ha i).ok (sm_getD hb i).ok (by have := (sm_getD ha i).len; omega) (by have := (sm_getD hb i).len; omega)
    obtain ⟨o1, o2⟩ := ofZ_ok (B82 (psum_lt ha hb (n := i) (by omega)) (by omega)) (by omega)
    obtain ⟨o3, o4⟩ := ofZ_ok (B82 (k := 1) (by have := dotF_le ha hb i; omega) (by omega)) (by omega) (z := dotF a b i)
    have A := Add_spec _ _ o1 o3 o2 o4
    rw [toZ_ofZ, toZ_ofZ] at A
    change Pur cx _ _ (encI (ofZ (dotF a b i))) at M
    change Pur cx _ _ (encI (ofZ (psum (dotF a b) (i + 1)))) at A
    repeat' first | (refine drawE' cx [(_, _)] [(_, _)] [0, 11] (List.Perm.refl _) (by decide +kernel) rfl ?_) | refine Ops.tag rfl ?_ | (refine OpsT.go ?_; (conv => arg 7; whnf)) | ((with_reducible refine Stp.isSum ?_); refine Stp.sum ?_) | ((with_reducible refine Stp.isDec ?_); first | refine Stp.decT ?_) | refine Stp.pure rfl ?_ | refine Ops.nil ?_ | (refine DOps.cons rfl rfl ?_; (conv => arg 7; whnf)) | refine DStp.pure rfl ?_ | refine PutD.mk' rfl ?_ | refine DOps.nil rfl ?_ | ((with_reducible refine Look.id ?_); refine Look.auto ?_ (by repeat first | exact HGet.hit); try (conv => arg 7; whnf)) | ((with_reducible refine Side.id ?_); first | refine Side.auto ?_) | ((with_reducible refine Br.id ?_); first | (with_reducible first | refine br_true rfl ?_)) | ((with_reducible refine SemWp.id ?_); first | refine sem_seq ?_ | refine sem_region rfl ?_ | refine sem_cond rfl ?_ | refine sem_block ?_ | refine sem_skip ?_ | refine sem_draw ?_) | ((with_reducible refine qThen.id ?_); first | refine qThen.go ?_) | ((with_reducible refine hinBlock.id ?_); first | refine hinBlock.go ?_) | ((with_reducible refine hround.id ?_); first | refine hround.go ?_) | refine DStp.valS ?_ | refine DStp.call ?_ | ((with_reducible refine QAsk.id ?_); first | (refine Pur.ask (M) ?_ ?_; focus (intro h; first | exact rfl)) | (refine Pur.ask (A) ?_ ?_; focus (intro h; first | exact rfl))) | (refine DOps.turn rfl rfl rfl ?_; (conv => arg 7; whnf)) | refine TStp.look ?_ | refine TStp.pure ?_ | rw [g1] | rw [g2] | refine TStp.upd [(_, .cells _ _)] rfl rfl HsetIs.hit ?_
    exact Fin.mk ⟨i + 1, by omega, by omega, by repeat' first | exact Sub.nil _ | refine Sub.auto ?_, Subp.of_eq rfl⟩
  · have : i = a.length := by omega
    subst this
    repeat' first | refine Ops.tag rfl ?_ | (refine OpsT.go ?_; (conv => arg 7; whnf)) | ((with_reducible refine Stp.isDec ?_); first | refine Stp.decF ?_) | refine Stp.pure rfl ?_ | ((with_reducible refine PutK.isSet ?_); refine PutK.set (by repeat first | exact HsetIs.hit | apply HsetIs.miss (by omega)) ?_) | refine PutK.mk' rfl ?_ | refine Ops.nil ?_ | ((with_reducible refine Look.id ?_); refine Look.auto ?_ (by repeat first | exact HGet.hit | apply HGet.miss (by omega)); try (conv => arg 7; whnf)) | ((with_reducible refine Br.id ?_); first | (with_reducible first | refine br_false rfl ?_)) | ((with_reducible refine SemWp.id ?_); first | refine sem_seq ?_ | refine sem_region rfl ?_ | refine sem_cond rfl ?_ | refine sem_exit ?_ | refine sem_ret ?_) | ((with_reducible refine qThen.id ?_); first | refine qThen.go ?_) | refine Stp.look ?_ | refine Stp.eff ?_ | ((with_reducible refine BodyR.id ?_); first | refine BodyR.ret ?_) | ((with_reducible refine ResG.id ?_); first | refine ResG.cell rfl ?_ | refine ResG.nil ?_) | ((with_reducible refine LoadIs.id ?_); first | refine LoadIs.agg (by repeat first | exact HGet.hit | apply HGet.miss (by omega)) rfl rfl rfl ?_) | ((with_reducible refine Upd.id ?_); first | (refine Upd.lit rfl ?_; (conv => whnf)))
    exact Fin.mk rfl
end Go.Proofs.Hk

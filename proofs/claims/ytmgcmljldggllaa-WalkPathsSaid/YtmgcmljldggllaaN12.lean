import Derived.Test.YtmgcmljldggllaaN11
import Derived.Test.YtmgcmljldggllaaH25
set_option linter.unusedSimpArgs false
set_option linter.unusedVariables false
namespace Go.Proofs.Hk
open Go Go.Proofs

def gi0 : GI := ⟨false, []⟩
def LIs (l : List GI) : HV := .list .no 2 (l.map encI)
/-- A number of at most forty limbs. -/
structure Sm (g : GI) : Prop where
  lim : Lim g.l
  len : g.l.length ≤ 40
/-- A number of at most n limbs. -/
structure SmN (n : Nat) (g : GI) : Prop where
  lim : Lim g.l
  len : g.l.length ≤ n
theorem Sm.to {g : GI} {n : Nat} (h : Sm g) (hn : 40 ≤ n) : SmN n g := ⟨h.lim, by have := h.len; omega⟩
theorem SmN.ok {n : Nat} {g : GI} (h : SmN n g) (hn : n ≤ 10000) : g.Ok := ⟨h.lim, by have := h.len; omega⟩
theorem Sm.ok {g : GI} (h : Sm g) : g.Ok := ⟨h.lim, by have := h.len; omega⟩
theorem sm0 : Sm gi0 := ⟨Lim.nil, by decide⟩
theorem toZ_ofZ (z : Int) : toZ (ofZ z) = z := by
  have hm : (ofZ z).may = true := by
    unfold GI.may
    cases h : (ofZ z).l.getLast? with
    | none =>
      have : nl z.natAbs = [] := List.getLast?_eq_none_iff.1 h
      have v := vl_nl z.natAbs
      rw [this] at v
      have : z = 0 := by simp [vl] at v; omega
      subst this; rfl
    | some x => simpa using nl_top z.natAbs x h
  unfold toZ
  rw [if_pos hm]
  show sg (decide (z < 0)) (vl (nl z.natAbs)) = z
  rw [vl_nl]
  unfold sg
  by_cases hz : z < 0
  · rw [if_pos (decide_eq_true hz)]; omega
  · rw [if_neg (by simpa using hz)]; omega
theorem toZ_gi0 : toZ gi0 = 0 := by simp [toZ, gi0, GI.may, sg, vl]
theorem ofZ_ok {z : Int} {n : Nat} (h : z.natAbs < B ^ n) (hn : n ≤ 1000000) : (ofZ z).Ok ∧ (ofZ z).l.length ≤ 1000000 := by
  have : (nl z.natAbs).length ≤ n := nl_len_lt h
  exact ⟨⟨nl_lim _, (show (nl z.natAbs).length ≤ _ by omega)⟩, (show (nl z.natAbs).length ≤ _ by omega)⟩
theorem Sm.lt {g : GI} (h : Sm g) : (toZ g).natAbs < B ^ 40 := Nat.lt_of_lt_of_le (abs_len h.ok) (Nat.pow_le_pow_right B_pos h.len)
theorem SmN.lt {n : Nat} {g : GI} (h : SmN n g) (hn : n ≤ 10000) : (toZ g).natAbs < B ^ n := Nat.lt_of_lt_of_le (abs_len (h.ok hn)) (Nat.pow_le_pow_right B_pos h.len)
def psum (f : Nat → Int) : Nat → Int
  | 0 => 0
  | n + 1 => psum f n + f n
theorem psum_le {f : Nat → Int} {M : Nat} : ∀ {n : Nat}, (∀ j, j < n → (f j).natAbs ≤ M) → (psum f n).natAbs ≤ n * M
  | 0, _ => by simp [psum]
  | n + 1, h => by
    have h1 := psum_le (n := n) fun j hj => h j (by omega)
    have h2 := h n (by omega)
    simp only [psum]
    rw [Nat.succ_mul]
    omega
def dotF (a b : List GI) (j : Nat) : Int := toZ (a.getD j gi0) * toZ (b.getD j gi0)
def dotZ (a b : List GI) : Int := psum (dotF a b) a.length
theorem sm_getD {a : List GI} (h : ∀ g ∈ a, Sm g) (j : Nat) : Sm (a.getD j gi0) := by
  rw [List.getD_eq_getElem?_getD]
  cases e : a[j]? with
  | none => exact sm0
  | some g => exact h g (List.mem_of_getElem? e)
theorem smN_getD {n : Nat} {a : List GI} (h : ∀ g ∈ a, SmN n g) (j : Nat) : SmN n (a.getD j gi0) := by
  rw [List.getD_eq_getElem?_getD]
  cases e : a[j]? with
  | none => exact ⟨sm0.lim, by show 0 ≤ n; omega⟩
  | some g => exact h g (List.mem_of_getElem? e)
theorem dotF_le {n : Nat} (hn : n ≤ 10000) {a b : List GI} (ha : ∀ g ∈ a, Sm g) (hb : ∀ g ∈ b, SmN n g) (j : Nat) : (dotF a b j).natAbs ≤ B ^ (40 + n) := by
  unfold dotF
  rw [Int.natAbs_mul, Nat.pow_add]
  exact Nat.mul_le_mul (Nat.le_of_lt (sm_getD ha j).lt) (Nat.le_of_lt ((smN_getD hb j).lt hn))
theorem psum_lt {k : Nat} (hk : k ≤ 10000) {a b : List GI} (ha : ∀ g ∈ a, Sm g) (hb : ∀ g ∈ b, SmN k g) {n : Nat} (hn : n ≤ 60) : (psum (dotF a b) n).natAbs ≤ 60 * B ^ (40 + k) :=
  Nat.le_trans (psum_le fun j _ => dotF_le hk ha hb j) (Nat.mul_le_mul_right _ hn)
theorem B82 {z : Int} {k n : Nat} (h : z.natAbs ≤ k * B ^ (40 + n)) (hk : k ≤ 1000) : z.natAbs < B ^ (41 + n) := by
  rw [show 41 + n = (40 + n) + 1 by omega, Nat.pow_add B (40 + n) 1, Nat.mul_comm]
  have h1 : k * B ^ (40 + n) ≤ 1000 * B ^ (40 + n) := Nat.mul_le_mul_right _ hk
  have h2 : 1001 * B ^ (40 + n) ≤ B ^ 1 * B ^ (40 + n) := Nat.mul_le_mul_right _ (by decide)
  have h3 := Bp (40 + n)
  omega
theorem getD_int {l : List GI} {k : Int} {n : Nat} (hk : k = n) (h : n < l.length) : (l.map encI).getD k.toNat default = encP (l.getD n gi0).neg (l.getD n gi0).l := by
  subst hk
  simp [List.getD_eq_getElem?_getD, h, encI]

theorem dot_spec {n : Nat} (h40 : n ≤ 10000) (a b : List GI) (hab : a.length = b.length) (ha : ∀ g ∈ a, Sm g) (hb : ∀ g ∈ b, SmN n g) (hn : a.length ≤ 60) : Pur cx 43 [LIs a, LIs b] (encI (ofZ (dotZ a b))) := by
  have ma : (a.map encI).length = a.length := by simp
  have mb : (b.map encI).length = b.length := by simp
  refine Pur.of (sem_calls' cx (fn := Try.f43) rfl rfl rfl rfl ?_)
  repeat' first | refine Ops.tag rfl ?_ | ((with_reducible first | refine OpsT.yes ?_ | refine OpsT.yes' ?_); (conv => arg 7; whnf)) | (with_reducible first | refine OpsT.andT ?_ | refine OpsT.andF ?_ | refine OpsT.no ?_ | refine OpsT.no' ?_) | (refine OpsT.go ?_; (conv => arg 7; whnf)) | (with_reducible first | refine Stp.orF ?_ | refine Stp.orT ?_ | refine Stp.andT ?_ | refine Stp.andF ?_ | refine Stp.notT ?_ | refine Stp.notF ?_ | refine Stp.andT2 ?_ | refine Stp.orF2 ?_) | ((with_reducible refine Stp.isSum ?_); refine Stp.sum ?_) | ((with_reducible refine Stp.isSumU ?_); refine Stp.sumU ?_) | ((with_reducible refine Stp.isSum3 ?_); refine Stp.sum3 ?_) | ((with_reducible refine Stp.isDec ?_); first | refine Stp.decT ?_ | refine Stp.decF ?_) | ((with_reducible refine Stp.isEq ?_); first | refine Stp.eqT ?_ | refine Stp.eqF ?_) | ((with_reducible refine Stp.isNe ?_); first | refine Stp.neT ?_ | refine Stp.neF ?_) | refine Stp.pure rfl ?_ | ((with_reducible refine PutK.isSet ?_); refine PutK.set (by repeat first | exact HsetIs.hit | apply HsetIs.miss (by omega)) ?_) | refine PutK.mk' rfl ?_ | refine Ops.nil ?_ | (refine DOps.cons rfl rfl ?_; (conv => arg 7; whnf)) | (with_reducible first | refine DStp.orF ?_ | refine DStp.orT ?_ | refine DStp.andT ?_ | refine DStp.andF ?_ | refine DStp.notT ?_ | refine DStp.notF ?_ | refine DStp.andT2 ?_ | refine DStp.orF2 ?_) | ((with_reducible refine DStp.isSum ?_); refine DStp.sum ?_) | ((with_reducible refine DStp.isSumU ?_); refine DStp.sumU ?_) | ((with_reducible refine DStp.isSum3 ?_); refine DStp.sum3 ?_) | ((with_reducible refine DStp.isDec ?_); first | refine DStp.decT ?_ | refine DStp.decF ?_) | ((with_reducible refine DStp.isEq ?_); first | refine DStp.eqT ?_ | refine DStp.eqF ?_) | ((with_reducible refine DStp.isNe ?_); first | refine DStp.neT ?_ | refine DStp.neF ?_) | refine DStp.pure rfl ?_ | refine PutD.mk' rfl ?_ | refine DOps.nil rfl ?_ | ((with_reducible refine Look.id ?_); refine Look.auto ?_ (by repeat first | exact HGet.hit | apply HGet.miss (by omega)); try (conv => arg 7; whnf)) | ((with_reducible refine Side.id ?_); first | refine Side.auto ?_) | ((with_reducible refine Br.id ?_); first | (with_reducible first | refine br_true rfl ?_ | refine br_false rfl ?_) | refine br_true (by with_reducible assumption) ?_ | refine br_false (by with_reducible assumption) ?_ | refine br_dec_t (by with_reducible assumption) ?_ | refine br_dec_f (by with_reducible assumption) ?_ | refine br_beq_t (by with_reducible assumption) ?_ | refine br_beq_f (by with_reducible assumption) ?_ | refine br_bne_t (by with_reducible assumption) ?_ | refine br_bne_f (by with_reducible assumption) ?_ | refine br_true rfl ?_ | refine br_false rfl ?_ | refine br_dec (fun _ => ?_) (fun _ => ?_) | refine br_beq (fun _ => ?_) (fun _ => ?_) | refine br_bne (fun _ => ?_) (fun _ => ?_) | refine br_split (fun _ => ?_) (fun _ => ?_)) | ((with_reducible refine SemWp.id ?_); first | refine sem_seq ?_ | refine sem_region rfl ?_ | refine sem_cond rfl ?_ | refine sem_block ?_ | refine sem_exit ?_ | refine sem_ret ?_ | refine sem_skip ?_ | refine sem_label ?_ | refine sem_draw ?_) | ((with_reducible refine qThen.id ?_); first | refine qThen.go ?_ | refine qThen.ret ?_ | refine qThen.exit ?_ | refine qThen.pan ?_) | ((with_reducible refine hinBlock.id ?_); first | refine hinBlock.go ?_ | refine hinBlock.ret ?_ | refine hinBlock.pan ?_ | refine hinBlock.here rfl ?_ | refine hinBlock.on rfl ?_) | ((with_reducible refine hround.id ?_); first | refine hround.go ?_ | refine hround.ret ?_ | refine hround.exit ?_ | refine hround.pan ?_) | ((with_reducible refine bodyQ.id ?_); first | refine bodyQ.ret rfl ?_ | refine bodyQ.ret2 rfl ?_ | refine bodyQ.ret0 rfl ?_ | refine bodyQ.go ?_ | refine bodyQ.pan ?_) | refine Stp.valS ?_ | refine Stp.valSC ?_ | refine Stp.look ?_ | refine Stp.call ?_ | refine Stp.callC ?_ | refine Stp.eff ?_ | refine Stp.effC ?_ | refine Stp.pan ?_ | refine Stp.panC ?_ | refine DStp.valS ?_ | refine DStp.valSC ?_ | refine DStp.look ?_ | refine DStp.call ?_ | refine DStp.callC ?_ | ((with_reducible refine CallC.id ?_); first | refine CallC.two ?_) | ((with_reducible refine DrawReg.id ?_); refine drawQ' cx (by decide +kernel) rfl ?_) | (refine newN (fun r hr => ?_); simp only [keys, List.nil_append, List.cons_append, List.map_cons, List.map_nil, List.mem_cons, List.not_mem_nil, not_or, or_false, not_false_eq_true] at hr) | ((with_reducible refine BodyR.id ?_); first | refine BodyR.ret ?_ | refine BodyR.go ?_ | refine BodyR.pan ?_) | ((with_reducible refine ResG.id ?_); first | refine ResG.tmp rfl ?_ | refine ResG.cell rfl ?_ | refine ResG.nil ?_) | ((with_reducible refine LoadIs.id ?_); first | refine LoadIs.agg (by repeat first | exact HGet.hit | apply HGet.miss (by omega)) rfl rfl rfl ?_ | refine LoadIs.one (by repeat first | exact HGet.hit | apply HGet.miss (by omega)) rfl rfl rfl rfl ?_) | ((with_reducible refine Upd.id ?_); first | (refine Upd.lit rfl ?_; (conv => whnf)) | refine Upd.set (by omega) ?_ | refine Upd.set (by (simp only [List.length_map, List.length_set, List.length_replicate]; omega)) ?_) | ((with_reducible refine Grow2.id ?_); refine Grow2.own ?_) | refine newCap (fun cap hcap => ?_) | refine newB (fun b hb => ?_) | refine grow_split (fun _ => ?_) (fun _ => ?_) | fail
  rename_i r0 h0
  refine sem_wkCell cx r [bb false, LL []] HPick.hit (.cons (.refl _) rfl (.cons (Weaker.nil 1) rfl .nil)) ?_
  refine sem_loop cx (ι := Nat) (fun i => i ≤ a.length) (fun i => [(0, .sure, LIs a), (1, .sure, LIs b), (4, .sure, .ptr r0 0), (5, .sure, .ptr r 0), (8, .sure, ii a.length), (9, .sure, ii i)]) (fun i => [(r, .cells [bb (ofZ (psum (dotF a b) i)).neg, LL (ofZ (psum (dotF a b) i)).l] 40), (r0, .cells [bb false, .v (.slice none 0 0)] 40)]) (fun i => a.length - i) 0 (Nat.zero_le _) (by repeat' first | exact Sub.nil _ | refine Sub.auto ?_) (Subp.of_eq (by show _ = [(r, Res.cells [bb (ofZ 0).neg, LL (ofZ 0).l] 40), _]; rw [ofZ_zero]; rfl)) ?_
  intro i hi
  by_cases hia : i < a.length
  · have g1 : (a.map encI).getD (i : Int).toNat default = encP (a.getD i gi0).neg (a.getD i gi0).l := getD_int (n := i) rfl hia
    have g2 : (b.map encI).getD (i : Int).toNat default = encP (b.getD i gi0).neg (b.getD i gi0).l := getD_int (n := i) rfl (by omega)
    have M := Mul_spec (a.getD i gi0) (b.getD i gi0) (sm_getD ha i).ok ((smN_getD hb i).ok h40) (by have := (sm_getD ha i).len; omega) (by have := (smN_getD hb i).len; omega)
    obtain ⟨o1, o2⟩ := ofZ_ok (B82 (psum_lt h40 ha hb (n := i) (by omega)) (by omega)) (by omega)
    obtain ⟨o3, o4⟩ := ofZ_ok (B82 (k := 1) (n := n) (by have := dotF_le h40 ha hb i; omega) (by omega)) (by omega) (z := dotF a b i)
    have A := Add_spec _ _ o1 o3 o2 o4
    rw [toZ_ofZ, toZ_ofZ] at A
    change Pur cx _ _ (encI (ofZ (dotF a b i))) at M
    change Pur cx _ _ (encI (ofZ (psum (dotF a b) (i + 1)))) at A
    repeat' first | (refine drawE' cx [(_, _)] [(_, _)] [0, 11] (List.Perm.refl _) (by decide +kernel) rfl ?_) | refine Ops.tag rfl ?_ | ((with_reducible first | refine OpsT.yes ?_ | refine OpsT.yes' ?_); (conv => arg 7; whnf)) | (with_reducible first | refine OpsT.andT ?_ | refine OpsT.andF ?_ | refine OpsT.no ?_ | refine OpsT.no' ?_) | (refine OpsT.go ?_; (conv => arg 7; whnf)) | (with_reducible first | refine Stp.orF ?_ | refine Stp.orT ?_ | refine Stp.andT ?_ | refine Stp.andF ?_ | refine Stp.notT ?_ | refine Stp.notF ?_ | refine Stp.andT2 ?_ | refine Stp.orF2 ?_) | ((with_reducible refine Stp.isSum ?_); refine Stp.sum ?_) | ((with_reducible refine Stp.isSumU ?_); refine Stp.sumU ?_) | ((with_reducible refine Stp.isSum3 ?_); refine Stp.sum3 ?_) | ((with_reducible refine Stp.isDec ?_); first | refine Stp.decT ?_ | refine Stp.decF ?_) | ((with_reducible refine Stp.isEq ?_); first | refine Stp.eqT ?_ | refine Stp.eqF ?_) | ((with_reducible refine Stp.isNe ?_); first | refine Stp.neT ?_ | refine Stp.neF ?_) | refine Stp.pure rfl ?_ | ((with_reducible refine PutK.isSet ?_); refine PutK.set (by repeat first | exact HsetIs.hit | apply HsetIs.miss (by omega)) ?_) | refine PutK.mk' rfl ?_ | refine Ops.nil ?_ | (refine DOps.cons rfl rfl ?_; (conv => arg 7; whnf)) | (with_reducible first | refine DStp.orF ?_ | refine DStp.orT ?_ | refine DStp.andT ?_ | refine DStp.andF ?_ | refine DStp.notT ?_ | refine DStp.notF ?_ | refine DStp.andT2 ?_ | refine DStp.orF2 ?_) | ((with_reducible refine DStp.isSum ?_); refine DStp.sum ?_) | ((with_reducible refine DStp.isSumU ?_); refine DStp.sumU ?_) | ((with_reducible refine DStp.isSum3 ?_); refine DStp.sum3 ?_) | ((with_reducible refine DStp.isDec ?_); first | refine DStp.decT ?_ | refine DStp.decF ?_) | ((with_reducible refine DStp.isEq ?_); first | refine DStp.eqT ?_ | refine DStp.eqF ?_) | ((with_reducible refine DStp.isNe ?_); first | refine DStp.neT ?_ | refine DStp.neF ?_) | refine DStp.pure rfl ?_ | refine PutD.mk' rfl ?_ | refine DOps.nil rfl ?_ | ((with_reducible refine Look.id ?_); refine Look.auto ?_ (by repeat first | exact HGet.hit | apply HGet.miss (by omega)); try (conv => arg 7; whnf)) | ((with_reducible refine Side.id ?_); first | refine Side.auto ?_) | ((with_reducible refine Br.id ?_); first | (with_reducible first | refine br_true rfl ?_ | refine br_false rfl ?_) | refine br_true (by with_reducible assumption) ?_ | refine br_false (by with_reducible assumption) ?_ | refine br_dec_t (by with_reducible assumption) ?_ | refine br_dec_f (by with_reducible assumption) ?_ | refine br_beq_t (by with_reducible assumption) ?_ | refine br_beq_f (by with_reducible assumption) ?_ | refine br_bne_t (by with_reducible assumption) ?_ | refine br_bne_f (by with_reducible assumption) ?_ | refine br_true rfl ?_ | refine br_false rfl ?_ | refine br_dec (fun _ => ?_) (fun _ => ?_) | refine br_beq (fun _ => ?_) (fun _ => ?_) | refine br_bne (fun _ => ?_) (fun _ => ?_) | refine br_split (fun _ => ?_) (fun _ => ?_)) | ((with_reducible refine SemWp.id ?_); first | refine sem_seq ?_ | refine sem_region rfl ?_ | refine sem_cond rfl ?_ | refine sem_block ?_ | refine sem_exit ?_ | refine sem_ret ?_ | refine sem_skip ?_ | refine sem_label ?_ | refine sem_draw ?_) | ((with_reducible refine qThen.id ?_); first | refine qThen.go ?_ | refine qThen.ret ?_ | refine qThen.exit ?_ | refine qThen.pan ?_) | ((with_reducible refine hinBlock.id ?_); first | refine hinBlock.go ?_ | refine hinBlock.ret ?_ | refine hinBlock.pan ?_ | refine hinBlock.here rfl ?_ | refine hinBlock.on rfl ?_) | ((with_reducible refine hround.id ?_); first | refine hround.go ?_ | refine hround.ret ?_ | refine hround.exit ?_ | refine hround.pan ?_) | ((with_reducible refine bodyQ.id ?_); first | refine bodyQ.ret rfl ?_ | refine bodyQ.ret2 rfl ?_ | refine bodyQ.ret0 rfl ?_ | refine bodyQ.go ?_ | refine bodyQ.pan ?_) | refine Stp.valS ?_ | refine Stp.valSC ?_ | refine Stp.look ?_ | refine Stp.call ?_ | refine Stp.callC ?_ | refine Stp.eff ?_ | refine Stp.effC ?_ | refine Stp.pan ?_ | refine Stp.panC ?_ | refine DStp.valS ?_ | refine DStp.valSC ?_ | refine DStp.look ?_ | refine DStp.call ?_ | refine DStp.callC ?_ | ((with_reducible refine CallWp.id ?_); first | refine Pur.call (M) ?_ | refine Pur.call (A) ?_) | ((with_reducible refine QAsk.id ?_); first | (refine Pur.ask (M) ?_ ?_; focus (intro h; first | exact True.intro | exact h | exact rfl | exact ⟨h, rfl⟩ | exact ⟨h, h, rfl⟩ | exact ⟨h, h, h, rfl⟩ | (simp_all; done) | (simp_all; omega); done)) | (refine Pur.ask (A) ?_ ?_; focus (intro h; first | exact True.intro | exact h | exact rfl | exact ⟨h, rfl⟩ | exact ⟨h, h, rfl⟩ | exact ⟨h, h, h, rfl⟩ | (simp_all; done) | (simp_all; omega); done))) | ((with_reducible refine CallC.id ?_); first | (refine Pur.askC (M) ?_ ?_; focus (intro h; first | exact True.intro | exact h | exact rfl | exact ⟨h, rfl⟩ | exact ⟨h, h, rfl⟩ | exact ⟨h, h, h, rfl⟩ | (simp_all; done) | (simp_all; omega); done)) | (refine Pur.askC (A) ?_ ?_; focus (intro h; first | exact True.intro | exact h | exact rfl | exact ⟨h, rfl⟩ | exact ⟨h, h, rfl⟩ | exact ⟨h, h, h, rfl⟩ | (simp_all; done) | (simp_all; omega); done)) | refine CallC.two ?_) | ((with_reducible refine DrawReg.id ?_); refine drawQ' cx (by decide +kernel) rfl ?_) | (refine newN (fun r hr => ?_); simp only [keys, List.nil_append, List.cons_append, List.map_cons, List.map_nil, List.mem_cons, List.not_mem_nil, not_or, or_false, not_false_eq_true] at hr) | ((with_reducible refine BodyR.id ?_); first | refine BodyR.ret ?_ | refine BodyR.go ?_ | refine BodyR.pan ?_) | ((with_reducible refine ResG.id ?_); first | refine ResG.tmp rfl ?_ | refine ResG.cell rfl ?_ | refine ResG.nil ?_) | ((with_reducible refine LoadIs.id ?_); first | refine LoadIs.agg (by repeat first | exact HGet.hit | apply HGet.miss (by omega)) rfl rfl rfl ?_ | refine LoadIs.one (by repeat first | exact HGet.hit | apply HGet.miss (by omega)) rfl rfl rfl rfl ?_) | ((with_reducible refine Upd.id ?_); first | (refine Upd.lit rfl ?_; (conv => whnf)) | refine Upd.set (by omega) ?_ | refine Upd.set (by (simp only [List.length_map, List.length_set, List.length_replicate]; omega)) ?_) | ((with_reducible refine Grow2.id ?_); refine Grow2.own ?_) | refine newCap (fun cap hcap => ?_) | refine newB (fun b hb => ?_) | refine grow_split (fun _ => ?_) (fun _ => ?_) | (refine DOps.turn rfl rfl rfl ?_; (conv => arg 7; whnf)) | refine TStp.look ?_ | refine TStp.pure ?_ | refine TStp.val ?_ | rw [g1] | rw [g2] | refine TStp.upd [(_, .cells _ _)] rfl rfl HsetIs.hit ?_ | fail
    exact Fin.mk ⟨i + 1, by omega, by omega, by repeat' first | exact Sub.nil _ | refine Sub.auto ?_, Subp.of_eq rfl⟩
  · have : i = a.length := by omega
    subst this
    repeat' first | refine Ops.tag rfl ?_ | ((with_reducible first | refine OpsT.yes ?_ | refine OpsT.yes' ?_); (conv => arg 7; whnf)) | (with_reducible first | refine OpsT.andT ?_ | refine OpsT.andF ?_ | refine OpsT.no ?_ | refine OpsT.no' ?_) | (refine OpsT.go ?_; (conv => arg 7; whnf)) | (with_reducible first | refine Stp.orF ?_ | refine Stp.orT ?_ | refine Stp.andT ?_ | refine Stp.andF ?_ | refine Stp.notT ?_ | refine Stp.notF ?_ | refine Stp.andT2 ?_ | refine Stp.orF2 ?_) | ((with_reducible refine Stp.isSum ?_); refine Stp.sum ?_) | ((with_reducible refine Stp.isSumU ?_); refine Stp.sumU ?_) | ((with_reducible refine Stp.isSum3 ?_); refine Stp.sum3 ?_) | ((with_reducible refine Stp.isDec ?_); first | refine Stp.decT ?_ | refine Stp.decF ?_) | ((with_reducible refine Stp.isEq ?_); first | refine Stp.eqT ?_ | refine Stp.eqF ?_) | ((with_reducible refine Stp.isNe ?_); first | refine Stp.neT ?_ | refine Stp.neF ?_) | refine Stp.pure rfl ?_ | ((with_reducible refine PutK.isSet ?_); refine PutK.set (by repeat first | exact HsetIs.hit | apply HsetIs.miss (by omega)) ?_) | refine PutK.mk' rfl ?_ | refine Ops.nil ?_ | (refine DOps.cons rfl rfl ?_; (conv => arg 7; whnf)) | (with_reducible first | refine DStp.orF ?_ | refine DStp.orT ?_ | refine DStp.andT ?_ | refine DStp.andF ?_ | refine DStp.notT ?_ | refine DStp.notF ?_ | refine DStp.andT2 ?_ | refine DStp.orF2 ?_) | ((with_reducible refine DStp.isSum ?_); refine DStp.sum ?_) | ((with_reducible refine DStp.isSumU ?_); refine DStp.sumU ?_) | ((with_reducible refine DStp.isSum3 ?_); refine DStp.sum3 ?_) | ((with_reducible refine DStp.isDec ?_); first | refine DStp.decT ?_ | refine DStp.decF ?_) | ((with_reducible refine DStp.isEq ?_); first | refine DStp.eqT ?_ | refine DStp.eqF ?_) | ((with_reducible refine DStp.isNe ?_); first | refine DStp.neT ?_ | refine DStp.neF ?_) | refine DStp.pure rfl ?_ | refine PutD.mk' rfl ?_ | refine DOps.nil rfl ?_ | ((with_reducible refine Look.id ?_); refine Look.auto ?_ (by repeat first | exact HGet.hit | apply HGet.miss (by omega)); try (conv => arg 7; whnf)) | ((with_reducible refine Side.id ?_); first | refine Side.auto ?_) | ((with_reducible refine Br.id ?_); first | (with_reducible first | refine br_true rfl ?_ | refine br_false rfl ?_) | refine br_true (by with_reducible assumption) ?_ | refine br_false (by with_reducible assumption) ?_ | refine br_dec_t (by with_reducible assumption) ?_ | refine br_dec_f (by with_reducible assumption) ?_ | refine br_beq_t (by with_reducible assumption) ?_ | refine br_beq_f (by with_reducible assumption) ?_ | refine br_bne_t (by with_reducible assumption) ?_ | refine br_bne_f (by with_reducible assumption) ?_ | refine br_true rfl ?_ | refine br_false rfl ?_ | refine br_dec (fun _ => ?_) (fun _ => ?_) | refine br_beq (fun _ => ?_) (fun _ => ?_) | refine br_bne (fun _ => ?_) (fun _ => ?_) | refine br_split (fun _ => ?_) (fun _ => ?_)) | ((with_reducible refine SemWp.id ?_); first | refine sem_seq ?_ | refine sem_region rfl ?_ | refine sem_cond rfl ?_ | refine sem_block ?_ | refine sem_exit ?_ | refine sem_ret ?_ | refine sem_skip ?_ | refine sem_label ?_ | refine sem_draw ?_) | ((with_reducible refine qThen.id ?_); first | refine qThen.go ?_ | refine qThen.ret ?_ | refine qThen.exit ?_ | refine qThen.pan ?_) | ((with_reducible refine hinBlock.id ?_); first | refine hinBlock.go ?_ | refine hinBlock.ret ?_ | refine hinBlock.pan ?_ | refine hinBlock.here rfl ?_ | refine hinBlock.on rfl ?_) | ((with_reducible refine hround.id ?_); first | refine hround.go ?_ | refine hround.ret ?_ | refine hround.exit ?_ | refine hround.pan ?_) | ((with_reducible refine bodyQ.id ?_); first | refine bodyQ.ret rfl ?_ | refine bodyQ.ret2 rfl ?_ | refine bodyQ.ret0 rfl ?_ | refine bodyQ.go ?_ | refine bodyQ.pan ?_) | refine Stp.valS ?_ | refine Stp.valSC ?_ | refine Stp.look ?_ | refine Stp.call ?_ | refine Stp.callC ?_ | refine Stp.eff ?_ | refine Stp.effC ?_ | refine Stp.pan ?_ | refine Stp.panC ?_ | refine DStp.valS ?_ | refine DStp.valSC ?_ | refine DStp.look ?_ | refine DStp.call ?_ | refine DStp.callC ?_ | ((with_reducible refine CallC.id ?_); first | refine CallC.two ?_) | ((with_reducible refine DrawReg.id ?_); refine drawQ' cx (by decide +kernel) rfl ?_) | (refine newN (fun r hr => ?_); simp only [keys, List.nil_append, List.cons_append, List.map_cons, List.map_nil, List.mem_cons, List.not_mem_nil, not_or, or_false, not_false_eq_true] at hr) | ((with_reducible refine BodyR.id ?_); first | refine BodyR.ret ?_ | refine BodyR.go ?_ | refine BodyR.pan ?_) | ((with_reducible refine ResG.id ?_); first | refine ResG.tmp rfl ?_ | refine ResG.cell rfl ?_ | refine ResG.nil ?_) | ((with_reducible refine LoadIs.id ?_); first | refine LoadIs.agg (by repeat first | exact HGet.hit | apply HGet.miss (by omega)) rfl rfl rfl ?_ | refine LoadIs.one (by repeat first | exact HGet.hit | apply HGet.miss (by omega)) rfl rfl rfl rfl ?_) | ((with_reducible refine Upd.id ?_); first | (refine Upd.lit rfl ?_; (conv => whnf)) | refine Upd.set (by omega) ?_ | refine Upd.set (by (simp only [List.length_map, List.length_set, List.length_replicate]; omega)) ?_) | ((with_reducible refine Grow2.id ?_); refine Grow2.own ?_) | refine newCap (fun cap hcap => ?_) | refine newB (fun b hb => ?_) | refine grow_split (fun _ => ?_) (fun _ => ?_) | fail
    exact Fin.mk rfl
end Go.Proofs.Hk

set_option linter.unusedSimpArgs false
set_option linter.unusedVariables false
namespace Go.Proofs.Hk
open Go Go.Proofs

structure GA where
  x : List GI
  w : List GI
  k : GI
def encA' (x w : List GI) (n : Bool) (l : List Nat) : HV := .agg [LIs x, LIs w, bb n, LL l]
def encA (a : GA) : HV := encA' a.x a.w a.k.neg a.k.l
structure SmA (a : GA) : Prop where
  x : ∀ g ∈ a.x, Sm g
  w : ∀ g ∈ a.w, Sm g
  k : Sm a.k
  lx : a.x.length ≤ 60
  lw : a.w.length ≤ 60
def valZ (a : GA) (x w : List GI) : Int := dotZ a.x x + dotZ a.w w + toZ a.k
def valV (a : GA) (x w : List GI) : HV := if a.x.length = x.length ∧ a.w.length = w.length then .tup [encI (ofZ (valZ a x w)), ii 0] else .tup [encI gi0, ii 1]
theorem weak0 : Weaker (.agg [bb false, .v (.slice none 0 0)]) (encI gi0) := Weaker.agg (.cons (.refl _) rfl (.cons (Weaker.nil 1) rfl .nil))
theorem bnd {p q : Int} {k m n : Nat} (h1 : p.natAbs ≤ k * B ^ n) (h2 : q.natAbs ≤ m * B ^ n) : (p + q).natAbs ≤ (k + m) * B ^ n := by
  rw [Nat.add_mul]; omega
theorem bnd1 {n : Nat} {g : GI} (h : Sm g) : (toZ g).natAbs ≤ 1 * B ^ (40 + n) := by
  have h1 := h.lt
  have h2 : B ^ 40 ≤ B ^ (40 + n) := Nat.pow_le_pow_right B_pos (by omega)
  omega
set_option maxHeartbeats 1000000 in
theorem Value_spec {n : Nat} (h40 : 40 ≤ n) (h41 : n ≤ 10000) (a : GA) (x w : List GI) (ha : SmA a) (hx : ∀ g ∈ x, SmN n g) (hw : ∀ g ∈ w, Sm g) (nx : x.length ≤ 60) (nw : w.length ≤ 60) : Pur cx 17 [encA a, LIs x, LIs w] (valV a x w) := by
  have hw := fun g h => (hw g h).to h40
  obtain ⟨ax, aw, ⟨kn, kl⟩⟩ := a
  have hax : ∀ g ∈ ax, Sm g := ha.x
  have haw : ∀ g ∈ aw, Sm g := ha.w
  have hk : Sm ⟨kn, kl⟩ := ha.k
  have nax : ax.length ≤ 60 := ha.lx
  have naw : aw.length ≤ 60 := ha.lw
  have m1 : (ax.map encI).length = ax.length := by simp
  have m2 : (aw.map encI).length = aw.length := by simp
  have m3 : (x.map encI).length = x.length := by simp
  have m4 : (w.map encI).length = w.length := by simp
  change Pur cx _ [encA' ax aw kn kl, LIs x, LIs w] _
  refine Pur.ofW (sem_calls' cx (fn := Try.f17) rfl rfl rfl rfl ?_)
  by_cases hl : ax.length = x.length ∧ aw.length = w.length
  · obtain ⟨l1, l2⟩ := hl
    have e : valV ⟨ax, aw, ⟨kn, kl⟩⟩ x w = .tup [encI (ofZ (dotZ ax x + dotZ aw w + toZ ⟨kn, kl⟩)), ii 0] := by unfold valV; rw [if_pos ⟨l1, l2⟩]; rfl
    rw [e]
    have D1 := dot_spec h41 ax x l1 hax hx nax
    have D2 := dot_spec h41 aw w l2 haw hw naw
    have b1 := psum_lt h41 hax hx nax
    have b2 := psum_lt h41 haw hw naw
    obtain ⟨o1, o2⟩ := ofZ_ok (B82 b1 (by omega)) (by omega)
    obtain ⟨o3, o4⟩ := ofZ_ok (B82 b2 (by omega)) (by omega)
    have A1 := Add_spec _ _ o1 o3 o2 o4
    rw [toZ_ofZ, toZ_ofZ] at A1
    obtain ⟨o5, o6⟩ := ofZ_ok (B82 (bnd b1 b2) (by omega)) (by omega)
    have A2 := Add_spec _ ⟨kn, kl⟩ o5 hk.ok o6 (by have := hk.len; omega)
    rw [toZ_ofZ] at A2
    repeat' first | (refine drawE' cx [(_, _)] [(_, _)] [12] (List.Perm.refl _) (by decide +kernel) rfl ?_) | refine Ops.tag rfl ?_ | ((with_reducible first | refine OpsT.yes' ?_); (conv => arg 7; whnf)) | (refine OpsT.go ?_; (conv => arg 7; whnf)) | (with_reducible first | refine Stp.orF ?_) | ((with_reducible refine Stp.isNe ?_); first | refine Stp.neF ?_) | refine Stp.pure rfl ?_ | refine PutK.mk' rfl ?_ | refine Ops.nil ?_ | (refine DOps.cons rfl rfl ?_; (conv => arg 7; whnf)) | refine DStp.pure rfl ?_ | refine PutD.mk' rfl ?_ | refine DOps.nil rfl ?_ | ((with_reducible refine Look.id ?_); refine Look.auto ?_ (by repeat first | exact HGet.hit | apply HGet.miss (by omega)); try (conv => arg 7; whnf)) | ((with_reducible refine Side.id ?_); first | refine Side.auto ?_) | ((with_reducible refine Br.id ?_); first | (with_reducible first | refine br_false rfl ?_)) | ((with_reducible refine SemWp.id ?_); first | refine sem_seq ?_ | refine sem_region rfl ?_ | refine sem_cond rfl ?_ | refine sem_ret ?_ | refine sem_skip ?_ | refine sem_draw ?_) | ((with_reducible refine qThen.id ?_); first | refine qThen.go ?_) | refine Stp.valS ?_ | refine Stp.look ?_ | refine Stp.eff ?_ | refine DStp.valS ?_ | refine DStp.look ?_ | refine DStp.call ?_ | ((with_reducible refine QAsk.id ?_); first | (refine Pur.ask (D1) ?_ ?_; focus (intro h; first | exact rfl)) | (refine Pur.ask (D2) ?_ ?_; focus (intro h; first | exact rfl)) | (refine Pur.ask (A1) ?_ ?_; focus (intro h; first | exact rfl)) | (refine Pur.ask (A2) ?_ ?_; focus (intro h; first | exact rfl))) | (refine newN (fun r hr => ?_); simp only [keys, List.nil_append, List.cons_append, List.map_cons, List.map_nil, List.mem_cons, List.not_mem_nil, not_or, or_false, not_false_eq_true] at hr) | ((with_reducible refine BodyR.id ?_); first | refine BodyR.ret ?_) | ((with_reducible refine ResG.id ?_); first | refine ResG.tmp rfl ?_ | refine ResG.cell rfl ?_ | refine ResG.nil ?_) | ((with_reducible refine LoadIs.id ?_); first | refine LoadIs.agg (by repeat first | exact HGet.hit) rfl rfl rfl ?_) | (refine DOps.turn rfl rfl rfl ?_; (conv => arg 7; whnf)) | refine TStp.look ?_ | refine TStp.upd [(_, .cells _ _)] rfl rfl HsetIs.hit ?_
    exact Fin.weak (Weaker.refl _)
  · have e : valV ⟨ax, aw, ⟨kn, kl⟩⟩ x w = .tup [encI gi0, ii 1] := by unfold valV; rw [if_neg hl]
    rw [e]
    by_cases l1 : ax.length = x.length
    · repeat' first | refine Ops.tag rfl ?_ | ((with_reducible first | refine OpsT.yes' ?_); (conv => arg 7; whnf)) | (refine OpsT.go ?_; (conv => arg 7; whnf)) | (with_reducible first | refine Stp.orF ?_) | ((with_reducible refine Stp.isNe ?_); first | refine Stp.neT ?_ | refine Stp.neF ?_) | refine Stp.pure rfl ?_ | ((with_reducible refine PutK.isSet ?_); refine PutK.set (by repeat first | exact HsetIs.hit) ?_) | refine PutK.mk' rfl ?_ | refine Ops.nil ?_ | ((with_reducible refine Look.id ?_); refine Look.auto ?_ (by repeat first | exact HGet.hit | apply HGet.miss (by omega)); try (conv => arg 7; whnf)) | ((with_reducible refine Side.id ?_); first | refine Side.auto ?_) | ((with_reducible refine Br.id ?_); first | (with_reducible first | refine br_true rfl ?_)) | ((with_reducible refine SemWp.id ?_); first | refine sem_seq ?_ | refine sem_region rfl ?_ | refine sem_cond rfl ?_ | refine sem_ret ?_) | ((with_reducible refine qThen.id ?_); first | refine qThen.go ?_ | refine qThen.ret ?_) | refine Stp.valS ?_ | refine Stp.look ?_ | refine Stp.eff ?_ | (refine newN (fun r hr => ?_); simp only [keys, List.nil_append, List.cons_append, List.map_cons, List.map_nil, List.mem_cons, List.not_mem_nil, not_or, or_false, not_false_eq_true] at hr) | ((with_reducible refine BodyR.id ?_); first | refine BodyR.ret ?_) | ((with_reducible refine ResG.id ?_); first | refine ResG.tmp rfl ?_ | refine ResG.cell rfl ?_ | refine ResG.nil ?_) | ((with_reducible refine LoadIs.id ?_); first | refine LoadIs.agg (by repeat first | exact HGet.hit) rfl rfl rfl ?_) | ((with_reducible refine Upd.id ?_); first | (refine Upd.lit rfl ?_; (conv => whnf)))
      all_goals exact Fin.weak (Weaker.tup (.cons weak0 (.cons (.refl _) .nil)))
    · repeat' first | refine Ops.tag rfl ?_ | (with_reducible first | refine OpsT.no' ?_) | (refine OpsT.go ?_; (conv => arg 7; whnf)) | (with_reducible first | refine Stp.orT ?_) | ((with_reducible refine Stp.isNe ?_); first | refine Stp.neT ?_) | refine Stp.pure rfl ?_ | ((with_reducible refine PutK.isSet ?_); refine PutK.set (by repeat first | exact HsetIs.hit) ?_) | refine PutK.mk' rfl ?_ | refine Ops.nil ?_ | ((with_reducible refine Look.id ?_); refine Look.auto ?_ (by repeat first | exact HGet.hit | apply HGet.miss (by omega)); try (conv => arg 7; whnf)) | ((with_reducible refine Side.id ?_); first | refine Side.auto ?_) | ((with_reducible refine Br.id ?_); first | (with_reducible first | refine br_true rfl ?_)) | ((with_reducible refine SemWp.id ?_); first | refine sem_seq ?_ | refine sem_region rfl ?_ | refine sem_cond rfl ?_ | refine sem_ret ?_) | ((with_reducible refine qThen.id ?_); first | refine qThen.go ?_ | refine qThen.ret ?_) | refine Stp.valS ?_ | refine Stp.look ?_ | refine Stp.eff ?_ | (refine newN (fun r hr => ?_); simp only [keys, List.nil_append, List.cons_append, List.map_cons, List.map_nil, List.mem_cons, List.not_mem_nil, not_or, or_false, not_false_eq_true] at hr) | ((with_reducible refine BodyR.id ?_); first | refine BodyR.ret ?_) | ((with_reducible refine ResG.id ?_); first | refine ResG.tmp rfl ?_ | refine ResG.cell rfl ?_ | refine ResG.nil ?_) | ((with_reducible refine LoadIs.id ?_); first | refine LoadIs.agg (by repeat first | exact HGet.hit) rfl rfl rfl ?_) | ((with_reducible refine Upd.id ?_); first | (refine Upd.lit rfl ?_; (conv => whnf)))
      all_goals exact Fin.weak (Weaker.tup (.cons weak0 (.cons (.refl _) .nil)))
set_option maxHeartbeats 1000000 in
theorem rValue_spec {n : Nat} (h40 : 40 ≤ n) (h41 : n ≤ 10000) (a : GA) (x w : List GI) (ha : SmA a) (hx : ∀ g ∈ x, SmN n g) (hw : ∀ g ∈ w, Sm g) (nx : x.length ≤ 60) (nw : w.length ≤ 60) : Pur cx 18 [encA a, LIs x, LIs w] (valV a x w) := by
  have hw := fun g h => (hw g h).to h40
  obtain ⟨ax, aw, ⟨kn, kl⟩⟩ := a
  have hax : ∀ g ∈ ax, Sm g := ha.x
  have haw : ∀ g ∈ aw, Sm g := ha.w
  have hk : Sm ⟨kn, kl⟩ := ha.k
  have nax : ax.length ≤ 60 := ha.lx
  have naw : aw.length ≤ 60 := ha.lw
  have m1 : (ax.map encI).length = ax.length := by simp
  have m2 : (aw.map encI).length = aw.length := by simp
  have m3 : (x.map encI).length = x.length := by simp
  have m4 : (w.map encI).length = w.length := by simp
  change Pur cx _ [encA' ax aw kn kl, LIs x, LIs w] _
  refine Pur.ofW (sem_calls' cx (fn := Try.f18) rfl rfl rfl rfl ?_)
  by_cases hl : ax.length = x.length ∧ aw.length = w.length
  · obtain ⟨l1, l2⟩ := hl
    have e : valV ⟨ax, aw, ⟨kn, kl⟩⟩ x w = .tup [encI (ofZ (dotZ ax x + dotZ aw w + toZ ⟨kn, kl⟩)), ii 0] := by unfold valV; rw [if_pos ⟨l1, l2⟩]; rfl
    rw [e]
    have b0 := bnd1 (n := n) hk
    have A0 := rAdd_spec ⟨kn, kl⟩ gi0 hk.ok sm0.ok (by have := hk.len; omega) (by decide)
    rw [toZ_gi0, Int.add_zero] at A0
    have A0' := A0.args (ys := [encP kn kl, .agg [bb false, .v (.slice none 0 0)]]) (.cons (.refl _) (.cons weak0 .nil))
    repeat' first | refine Ops.tag rfl ?_ | ((with_reducible first | refine OpsT.yes' ?_); (conv => arg 7; whnf)) | (refine OpsT.go ?_; (conv => arg 7; whnf)) | (with_reducible first | refine Stp.orF ?_) | ((with_reducible refine Stp.isNe ?_); first | refine Stp.neF ?_) | refine Stp.pure rfl ?_ | ((with_reducible refine PutK.isSet ?_); refine PutK.set (by repeat first | exact HsetIs.hit) ?_) | refine PutK.mk' rfl ?_ | refine Ops.nil ?_ | ((with_reducible refine Look.id ?_); refine Look.auto ?_ (by repeat first | exact HGet.hit | apply HGet.miss (by omega)); try (conv => arg 7; whnf)) | ((with_reducible refine Side.id ?_); first | refine Side.auto ?_) | ((with_reducible refine Br.id ?_); first | (with_reducible first | refine br_false rfl ?_)) | ((with_reducible refine SemWp.id ?_); first | refine sem_seq ?_ | refine sem_region rfl ?_ | refine sem_cond rfl ?_ | refine sem_block ?_ | refine sem_skip ?_) | ((with_reducible refine qThen.id ?_); first | refine qThen.go ?_) | refine Stp.valS ?_ | refine Stp.look ?_ | refine Stp.call ?_ | refine Stp.eff ?_ | ((with_reducible refine CallWp.id ?_); first | refine Pur.call (A0') ?_) | (refine newN (fun r hr => ?_); simp only [keys, List.nil_append, List.cons_append, List.map_cons, List.map_nil, List.mem_cons, List.not_mem_nil, not_or, or_false, not_false_eq_true] at hr) | ((with_reducible refine Upd.id ?_); first | (refine Upd.lit rfl ?_; (conv => whnf)))
    rename_i r3 h3 r6 h6
    generalize hkz : toZ ⟨kn, kl⟩ = kz at *
    refine sem_loop cx (ι := Nat) (fun i => i ≤ ax.length) (fun i => [(1, .sure, LIs x), (2, .sure, LIs w), (3, .sure, .ptr r3 0), (6, .sure, .ptr r6 0), (8, .sure, .ptr r 0), (9, .sure, ii i)]) (fun i => [(r, .cells [bb (ofZ (kz + psum (dotF ax x) i)).neg, LL (ofZ (kz + psum (dotF ax x) i)).l] 40), (r6, .cells [bb false, .v (.slice none 0 0)] 40), (r3, .cells [LIs ax, LIs aw, bb kn, LL kl] 42)]) (fun i => ax.length - i) 0 (Nat.zero_le _) (by repeat' first | exact Sub.nil _ | refine Sub.auto ?_) (Subp.of_eq (by simp only [psum, Int.add_zero]; rfl)) ?_
    intro i hi
    have bi := psum_lt h41 hax hx (n := i) (by omega)
    obtain ⟨o1, o2⟩ := ofZ_ok (B82 (bnd b0 bi) (by omega)) (by omega)
    by_cases hia : i < ax.length
    · have g1 : (ax.map encI).getD (i : Int).toNat default = encP (ax.getD i gi0).neg (ax.getD i gi0).l := getD_int (n := i) rfl hia
      have g2 : (x.map encI).getD (i : Int).toNat default = encP (x.getD i gi0).neg (x.getD i gi0).l := getD_int (n := i) rfl (by omega)
      have M := rMul_spec (ax.getD i gi0) (x.getD i gi0) (sm_getD hax i).ok ((smN_getD hx i).ok h41) (by have := (sm_getD hax i).len; omega) (by have := (smN_getD hx i).len; omega)
      obtain ⟨o3, o4⟩ := ofZ_ok (B82 (k := 1) (n := n) (by have := dotF_le h41 hax hx i; omega) (by omega)) (by omega) (z := dotF ax x i)
      have A := rAdd_spec _ _ o1 o3 o2 o4
      rw [toZ_ofZ, toZ_ofZ, Int.add_assoc] at A
      change Pur cx _ _ (encI (ofZ (dotF ax x i))) at M
      change Pur cx _ _ (encI (ofZ (kz + psum (dotF ax x) (i + 1)))) at A
      repeat' first | (refine drawE' cx [(_, _)] [(_, _), (_, _)] [0, 12] (List.Perm.refl _) (by decide +kernel) rfl ?_) | refine Ops.tag rfl ?_ | (refine OpsT.go ?_; (conv => arg 7; whnf)) | ((with_reducible refine Stp.isSum ?_); refine Stp.sum ?_) | ((with_reducible refine Stp.isDec ?_); first | refine Stp.decT ?_) | refine Stp.pure rfl ?_ | refine Ops.nil ?_ | (refine DOps.cons rfl rfl ?_; (conv => arg 7; whnf)) | refine DStp.pure rfl ?_ | refine PutD.mk' rfl ?_ | refine DOps.nil rfl ?_ | ((with_reducible refine Look.id ?_); refine Look.auto ?_ (by repeat first | exact HGet.hit | apply HGet.miss (by omega)); try (conv => arg 7; whnf)) | ((with_reducible refine Side.id ?_); first | refine Side.auto ?_) | ((with_reducible refine Br.id ?_); first | (with_reducible first | refine br_true rfl ?_)) | ((with_reducible refine SemWp.id ?_); first | refine sem_seq ?_ | refine sem_region rfl ?_ | refine sem_cond rfl ?_ | refine sem_block ?_ | refine sem_skip ?_ | refine sem_draw ?_) | ((with_reducible refine qThen.id ?_); first | refine qThen.go ?_) | ((with_reducible refine hinBlock.id ?_); first | refine hinBlock.go ?_) | ((with_reducible refine hround.id ?_); first | refine hround.go ?_) | refine DStp.valS ?_ | refine DStp.look ?_ | refine DStp.call ?_ | ((with_reducible refine QAsk.id ?_); first | (refine Pur.ask (M) ?_ ?_; focus (intro h; first | exact rfl)) | (refine Pur.ask (A) ?_ ?_; focus (intro h; first | exact rfl))) | (refine DOps.turn rfl rfl rfl ?_; (conv => arg 7; whnf)) | refine TStp.look ?_ | refine TStp.pure ?_ | rw [g1] | rw [g2] | refine TStp.upd [(_, .cells _ _)] rfl rfl HsetIs.hit ?_
      exact Fin.mk ⟨i + 1, by omega, by omega, by repeat' first | exact Sub.nil _ | refine Sub.auto ?_, Subp.of_eq rfl⟩
    · have : i = ax.length := by omega
      subst this
      repeat' first | refine Ops.tag rfl ?_ | (refine OpsT.go ?_; (conv => arg 7; whnf)) | ((with_reducible refine Stp.isDec ?_); first | refine Stp.decF ?_) | refine Stp.pure rfl ?_ | refine Ops.nil ?_ | ((with_reducible refine Br.id ?_); first | (with_reducible first | refine br_false rfl ?_)) | ((with_reducible refine SemWp.id ?_); first | refine sem_seq ?_ | refine sem_region rfl ?_ | refine sem_cond rfl ?_ | refine sem_block ?_ | refine sem_exit ?_) | ((with_reducible refine qThen.id ?_); first | refine qThen.go ?_)
      refine sem_loop cx (ι := Nat) (fun i => i ≤ aw.length) (fun i => [(1, .sure, LIs x), (2, .sure, LIs w), (3, .sure, .ptr r3 0), (6, .sure, .ptr r6 0), (8, .sure, .ptr r 0), (10, .sure, ii i)]) (fun i => [(r, .cells [bb (ofZ (kz + dotZ ax x + psum (dotF aw w) i)).neg, LL (ofZ (kz + dotZ ax x + psum (dotF aw w) i)).l] 40), (r6, .cells [bb false, .v (.slice none 0 0)] 40), (r3, .cells [LIs ax, LIs aw, bb kn, LL kl] 42)]) (fun i => aw.length - i) 0 (Nat.zero_le _) (by repeat' first | exact Sub.nil _ | refine Sub.auto ?_) (Subp.of_eq (by simp only [psum, Int.add_zero]; rfl)) ?_
      intro j hj
      have bj := psum_lt h41 haw hw (n := j) (by omega)
      obtain ⟨o1, o2⟩ := ofZ_ok (B82 (bnd (bnd b0 bi) bj) (by omega)) (by omega)
      by_cases hja : j < aw.length
      · have g1 : (aw.map encI).getD (j : Int).toNat default = encP (aw.getD j gi0).neg (aw.getD j gi0).l := getD_int (n := j) rfl hja
        have g2 : (w.map encI).getD (j : Int).toNat default = encP (w.getD j gi0).neg (w.getD j gi0).l := getD_int (n := j) rfl (by omega)
        have M := rMul_spec (aw.getD j gi0) (w.getD j gi0) (sm_getD haw j).ok ((smN_getD hw j).ok h41) (by have := (sm_getD haw j).len; omega) (by have := (smN_getD hw j).len; omega)
        obtain ⟨o3, o4⟩ := ofZ_ok (B82 (k := 1) (n := n) (by have := dotF_le h41 haw hw j; omega) (by omega)) (by omega) (z := dotF aw w j)
        have A := rAdd_spec _ _ o1 o3 o2 o4
        rw [toZ_ofZ, toZ_ofZ] at A
        change Pur cx _ _ (encI (ofZ (dotF aw w j))) at M
        have e3 : kz + psum (dotF ax x) ax.length + psum (dotF aw w) j + dotF aw w j = kz + psum (dotF ax x) ax.length + psum (dotF aw w) (j + 1) := by simp only [psum]; omega
        rw [e3] at A
        repeat' first | (refine drawE' cx [(_, _)] [(_, _), (_, _)] [0, 12] (List.Perm.refl _) (by decide +kernel) rfl ?_) | refine Ops.tag rfl ?_ | (refine OpsT.go ?_; (conv => arg 7; whnf)) | ((with_reducible refine Stp.isSum ?_); refine Stp.sum ?_) | ((with_reducible refine Stp.isDec ?_); first | refine Stp.decT ?_) | refine Stp.pure rfl ?_ | refine Ops.nil ?_ | (refine DOps.cons rfl rfl ?_; (conv => arg 7; whnf)) | refine DStp.pure rfl ?_ | refine PutD.mk' rfl ?_ | refine DOps.nil rfl ?_ | ((with_reducible refine Look.id ?_); refine Look.auto ?_ (by repeat first | exact HGet.hit | apply HGet.miss (by omega)); try (conv => arg 7; whnf)) | ((with_reducible refine Side.id ?_); first | refine Side.auto ?_) | ((with_reducible refine Br.id ?_); first | (with_reducible first | refine br_true rfl ?_)) | ((with_reducible refine SemWp.id ?_); first | refine sem_seq ?_ | refine sem_region rfl ?_ | refine sem_cond rfl ?_ | refine sem_block ?_ | refine sem_skip ?_ | refine sem_draw ?_) | ((with_reducible refine qThen.id ?_); first | refine qThen.go ?_) | ((with_reducible refine hinBlock.id ?_); first | refine hinBlock.go ?_) | ((with_reducible refine hround.id ?_); first | refine hround.go ?_) | refine DStp.valS ?_ | refine DStp.look ?_ | refine DStp.call ?_ | ((with_reducible refine QAsk.id ?_); first | (refine Pur.ask (M) ?_ ?_; focus (intro h; first | exact rfl)) | (refine Pur.ask (A) ?_ ?_; focus (intro h; first | exact rfl))) | (refine DOps.turn rfl rfl rfl ?_; (conv => arg 7; whnf)) | refine TStp.look ?_ | refine TStp.pure ?_ | rw [g1] | rw [g2] | refine TStp.upd [(_, .cells _ _)] rfl rfl HsetIs.hit ?_
        exact Fin.mk ⟨j + 1, by omega, by omega, by repeat' first | exact Sub.nil _ | refine Sub.auto ?_, Subp.of_eq rfl⟩
      · have : j = aw.length := by omega
        subst this
        repeat' first | refine Ops.tag rfl ?_ | (refine OpsT.go ?_; (conv => arg 7; whnf)) | ((with_reducible refine Stp.isDec ?_); first | refine Stp.decF ?_) | refine Stp.pure rfl ?_ | ((with_reducible refine PutK.isSet ?_); refine PutK.set (by repeat first | exact HsetIs.hit | apply HsetIs.miss (by omega)) ?_) | refine PutK.mk' rfl ?_ | refine Ops.nil ?_ | ((with_reducible refine Look.id ?_); refine Look.auto ?_ (by repeat first | exact HGet.hit | apply HGet.miss (by omega)); try (conv => arg 7; whnf)) | ((with_reducible refine Br.id ?_); first | (with_reducible first | refine br_false rfl ?_)) | ((with_reducible refine SemWp.id ?_); first | refine sem_seq ?_ | refine sem_region rfl ?_ | refine sem_cond rfl ?_ | refine sem_exit ?_ | refine sem_ret ?_) | ((with_reducible refine qThen.id ?_); first | refine qThen.go ?_) | refine Stp.look ?_ | refine Stp.eff ?_ | ((with_reducible refine BodyR.id ?_); first | refine BodyR.ret ?_) | ((with_reducible refine ResG.id ?_); first | refine ResG.tmp rfl ?_ | refine ResG.cell rfl ?_ | refine ResG.nil ?_) | ((with_reducible refine LoadIs.id ?_); first | refine LoadIs.agg (by repeat first | exact HGet.hit | apply HGet.miss (by omega)) rfl rfl rfl ?_) | ((with_reducible refine Upd.id ?_); first | (refine Upd.lit rfl ?_; (conv => whnf)))
        refine Fin.weak (Weaker.eq ?_)
        have e2 : kz + dotZ ax x + psum (dotF aw w) aw.length = dotZ ax x + dotZ aw w + kz := by unfold dotZ; omega
        rw [← e2]
        rfl
  · have e : valV ⟨ax, aw, ⟨kn, kl⟩⟩ x w = .tup [encI gi0, ii 1] := by unfold valV; rw [if_neg hl]
    rw [e]
    by_cases l1 : ax.length = x.length
    · repeat' first | refine Ops.tag rfl ?_ | ((with_reducible first | refine OpsT.yes' ?_); (conv => arg 7; whnf)) | (refine OpsT.go ?_; (conv => arg 7; whnf)) | (with_reducible first | refine Stp.orF ?_) | ((with_reducible refine Stp.isNe ?_); first | refine Stp.neT ?_ | refine Stp.neF ?_) | refine Stp.pure rfl ?_ | ((with_reducible refine PutK.isSet ?_); refine PutK.set (by repeat first | exact HsetIs.hit) ?_) | refine PutK.mk' rfl ?_ | refine Ops.nil ?_ | ((with_reducible refine Look.id ?_); refine Look.auto ?_ (by repeat first | exact HGet.hit | apply HGet.miss (by omega)); try (conv => arg 7; whnf)) | ((with_reducible refine Side.id ?_); first | refine Side.auto ?_) | ((with_reducible refine Br.id ?_); first | (with_reducible first | refine br_true rfl ?_)) | ((with_reducible refine SemWp.id ?_); first | refine sem_seq ?_ | refine sem_region rfl ?_ | refine sem_cond rfl ?_ | refine sem_ret ?_) | ((with_reducible refine qThen.id ?_); first | refine qThen.go ?_ | refine qThen.ret ?_) | refine Stp.valS ?_ | refine Stp.look ?_ | refine Stp.eff ?_ | (refine newN (fun r hr => ?_); simp only [keys, List.nil_append, List.cons_append, List.map_cons, List.map_nil, List.mem_cons, List.not_mem_nil, not_or, or_false, not_false_eq_true] at hr) | ((with_reducible refine BodyR.id ?_); first | refine BodyR.ret ?_) | ((with_reducible refine ResG.id ?_); first | refine ResG.tmp rfl ?_ | refine ResG.cell rfl ?_ | refine ResG.nil ?_) | ((with_reducible refine LoadIs.id ?_); first | refine LoadIs.agg (by repeat first | exact HGet.hit) rfl rfl rfl ?_) | ((with_reducible refine Upd.id ?_); first | (refine Upd.lit rfl ?_; (conv => whnf)))
      all_goals exact Fin.weak (Weaker.tup (.cons weak0 (.cons (.refl _) .nil)))
    · repeat' first | refine Ops.tag rfl ?_ | (with_reducible first | refine OpsT.no' ?_) | (refine OpsT.go ?_; (conv => arg 7; whnf)) | (with_reducible first | refine Stp.orT ?_) | ((with_reducible refine Stp.isNe ?_); first | refine Stp.neT ?_) | refine Stp.pure rfl ?_ | ((with_reducible refine PutK.isSet ?_); refine PutK.set (by repeat first | exact HsetIs.hit) ?_) | refine PutK.mk' rfl ?_ | refine Ops.nil ?_ | ((with_reducible refine Look.id ?_); refine Look.auto ?_ (by repeat first | exact HGet.hit | apply HGet.miss (by omega)); try (conv => arg 7; whnf)) | ((with_reducible refine Side.id ?_); first | refine Side.auto ?_) | ((with_reducible refine Br.id ?_); first | (with_reducible first | refine br_true rfl ?_)) | ((with_reducible refine SemWp.id ?_); first | refine sem_seq ?_ | refine sem_region rfl ?_ | refine sem_cond rfl ?_ | refine sem_ret ?_) | ((with_reducible refine qThen.id ?_); first | refine qThen.go ?_ | refine qThen.ret ?_) | refine Stp.valS ?_ | refine Stp.look ?_ | refine Stp.eff ?_ | (refine newN (fun r hr => ?_); simp only [keys, List.nil_append, List.cons_append, List.map_cons, List.map_nil, List.mem_cons, List.not_mem_nil, not_or, or_false, not_false_eq_true] at hr) | ((with_reducible refine BodyR.id ?_); first | refine BodyR.ret ?_) | ((with_reducible refine ResG.id ?_); first | refine ResG.tmp rfl ?_ | refine ResG.cell rfl ?_ | refine ResG.nil ?_) | ((with_reducible refine LoadIs.id ?_); first | refine LoadIs.agg (by repeat first | exact HGet.hit) rfl rfl rfl ?_) | ((with_reducible refine Upd.id ?_); first | (refine Upd.lit rfl ?_; (conv => whnf)))
      all_goals exact Fin.weak (Weaker.tup (.cons weak0 (.cons (.refl _) .nil)))
end Go.Proofs.Hk

import Derived.Test.YtmgcmljldggllaaN12
set_option linter.unusedSimpArgs false
set_option linter.unusedVariables false
namespace Go.Proofs.Hk
open Go Go.Proofs

structure GA where
  x : List GI
  w : List GI
  k : GI
def encA' (x w : List GI) (n : Bool) (l : List Nat) : HV := .agg [LIs x, LIs w, bb n, LL l]
def encA (a : GA) : HV := encA' a.x a.w a.k.neg a.k.l
structure SmA (a : GA) : Prop where
  x : ∀ g ∈ a.x, Sm g
  w : ∀ g ∈ a.w, Sm g
  k : Sm a.k
  lx : a.x.length ≤ 60
  lw : a.w.length ≤ 60
def valZ (a : GA) (x w : List GI) : Int := dotZ a.x x + dotZ a.w w + toZ a.k
def valV (a : GA) (x w : List GI) : HV := if a.x.length = x.length ∧ a.w.length = w.length then .tup [encI (ofZ (valZ a x w)), ii 0] else .tup [encI gi0, ii 1]
theorem weak0 : Weaker (.agg [bb false, .v (.slice none 0 0)]) (encI gi0) := Weaker.agg (.cons (.refl _) rfl (.cons (Weaker.nil 1) rfl .nil))
theorem bnd {p q : Int} {k m : Nat} (h1 : p.natAbs ≤ k * B ^ 80) (h2 : q.natAbs ≤ m * B ^ 80) : (p + q).natAbs ≤ (k + m) * B ^ 80 := by
  rw [Nat.add_mul]; omega
theorem bnd1 {g : GI} (h : Sm g) : (toZ g).natAbs ≤ 1 * B ^ 80 := by
  have h1 := h.lt
  have h2 : B ^ 40 ≤ B ^ 80 := Nat.pow_le_pow_right B_pos (by decide)
  omega
set_option maxHeartbeats 1000000 in
theorem Value_spec (a : GA) (x w : List GI) (ha : SmA a) (hx : ∀ g ∈ x, Sm g) (hw : ∀ g ∈ w, Sm g) (nx : x.length ≤ 60) (nw : w.length ≤ 60) : Pur cx 17 [encA a, LIs x, LIs w] (valV a x w) := by
  obtain ⟨ax, aw, ⟨kn, kl⟩⟩ := a
  have hax : ∀ g ∈ ax, Sm g := ha.x
  have haw : ∀ g ∈ aw, Sm g := ha.w
  have hk : Sm ⟨kn, kl⟩ := ha.k
  have nax : ax.length ≤ 60 := ha.lx
  have naw : aw.length ≤ 60 := ha.lw
  have m1 : (ax.map encI).length = ax.length := by simp
  have m2 : (aw.map encI).length = aw.length := by simp
  have m3 : (x.map encI).length = x.length := by simp
  have m4 : (w.map encI).length = w.length := by simp
  change Pur cx _ [encA' ax aw kn kl, LIs x, LIs w] _
  refine Pur.ofW (sem_calls' cx (fn := Try.f17) rfl rfl rfl rfl ?_)
  by_cases hl : ax.length = x.length ∧ aw.length = w.length
  · obtain ⟨l1, l2⟩ := hl
    have e : valV ⟨ax, aw, ⟨kn, kl⟩⟩ x w = .tup [encI (ofZ (dotZ ax x + dotZ aw w + toZ ⟨kn, kl⟩)), ii 0] := by unfold valV; rw [if_pos ⟨l1, l2⟩]; rfl
    rw [e]
    have D1 := dot_spec ax x l1 hax hx nax
    have D2 := dot_spec aw w l2 haw hw naw
    have b1 := psum_lt hax hx nax
    have b2 := psum_lt haw hw naw
    obtain ⟨o1, o2⟩ := ofZ_ok (B82 b1 (by omega)) (by omega)
    obtain ⟨o3, o4⟩ := ofZ_ok (B82 b2 (by omega)) (by omega)
    have A1 := Add_spec _ _ o1 o3 o2 o4
    rw [toZ_ofZ, toZ_ofZ] at A1
    obtain ⟨o5, o6⟩ := ofZ_ok (B82 (bnd b1 b2) (by omega)) (by omega)
    have A2 := Add_spec _ ⟨kn, kl⟩ o5 hk.ok o6 (by have := hk.len; omega)
    rw [toZ_ofZ] at A2
    repeat' first | (refine drawE' cx [(_, _)] [(_, _)] [12] (List.Perm.refl _) (by decide +kernel) rfl ?_) | refine Ops.tag rfl ?_ | ((with_reducible first | refine OpsT.yes' ?_); (conv => arg 7; whnf)) | (refine OpsT.go ?_; (conv => arg 7; whnf)) | (with_reducible first | refine Stp.orF ?_) | ((with_reducible refine Stp.isNe ?_); first | refine Stp.neF ?_) | refine Stp.pure rfl ?_ | refine PutK.mk' rfl ?_ | refine Ops.nil ?_ | (refine DOps.cons rfl rfl ?_; (conv => arg 7; whnf)) | refine DStp.pure rfl ?_ | refine PutD.mk' rfl ?_ | refine DOps.nil rfl ?_ | ((with_reducible refine Look.id ?_); refine Look.auto ?_ (by repeat first | exact HGet.hit | apply HGet.miss (by omega)); try (conv => arg 7; whnf)) | ((with_reducible refine Side.id ?_); first | refine Side.auto ?_) | ((with_reducible refine Br.id ?_); first | (with_reducible first | refine br_false rfl ?_)) | ((with_reducible refine SemWp.id ?_); first | refine sem_seq ?_ | refine sem_region rfl ?_ | refine sem_cond rfl ?_ | refine sem_ret ?_ | refine sem_skip ?_ | refine sem_draw ?_) | ((with_reducible refine qThen.id ?_); first | refine qThen.go ?_) | refine Stp.valS ?_ | refine Stp.look ?_ | refine Stp.eff ?_ | refine DStp.valS ?_ | refine DStp.look ?_ | refine DStp.call ?_ | ((with_reducible refine QAsk.id ?_); first | (refine Pur.ask (D1) ?_ ?_; focus (intro h; first | exact rfl)) | (refine Pur.ask (D2) ?_ ?_; focus (intro h; first | exact rfl)) | (refine Pur.ask (A1) ?_ ?_; focus (intro h; first | exact rfl)) | (refine Pur.ask (A2) ?_ ?_; focus (intro h; first | exact rfl))) | (refine newN (fun r hr => ?_); simp only [keys, List.nil_append, List.cons_append, List.map_cons, List.map_nil, List.mem_cons, List.not_mem_nil, not_or, or_false, not_false_eq_true] at hr) | ((with_reducible refine BodyR.id ?_); first | refine BodyR.ret ?_) | ((with_reducible refine ResG.id ?_); first | refine ResG.tmp rfl ?_ | refine ResG.cell rfl ?_ | refine ResG.nil ?_) | ((with_reducible refine LoadIs.id ?_); first | refine LoadIs.agg (by repeat first | exact HGet.hit) rfl rfl rfl ?_) | (refine DOps.turn rfl rfl rfl ?_; (conv => arg 7; whnf)) | refine TStp.look ?_ | refine TStp.upd [(_, .cells _ _)] rfl rfl HsetIs.hit ?_
    exact Fin.weak (Weaker.refl _)
  · have e : valV ⟨ax, aw, ⟨kn, kl⟩⟩ x w = .tup [encI gi0, ii 1] := by unfold valV; rw [if_neg hl]
    rw [e]
    by_cases l1 : ax.length = x.length
    · repeat' first | refine Ops.tag rfl ?_ | ((with_reducible first | refine OpsT.yes' ?_); (conv => arg 7; whnf)) | (refine OpsT.go ?_; (conv => arg 7; whnf)) | (with_reducible first | refine Stp.orF ?_) | ((with_reducible refine Stp.isNe ?_); first | refine Stp.neT ?_ | refine Stp.neF ?_) | refine Stp.pure rfl ?_ | ((with_reducible refine PutK.isSet ?_); refine PutK.set (by repeat first | exact HsetIs.hit) ?_) | refine PutK.mk' rfl ?_ | refine Ops.nil ?_ | ((with_reducible refine Look.id ?_); refine Look.auto ?_ (by repeat first | exact HGet.hit | apply HGet.miss (by omega)); try (conv => arg 7; whnf)) | ((with_reducible refine Side.id ?_); first | refine Side.auto ?_) | ((with_reducible refine Br.id ?_); first | (with_reducible first | refine br_true rfl ?_)) | ((with_reducible refine SemWp.id ?_); first | refine sem_seq ?_ | refine sem_region rfl ?_ | refine sem_cond rfl ?_ | refine sem_ret ?_) | ((with_reducible refine qThen.id ?_); first | refine qThen.go ?_ | refine qThen.ret ?_) | refine Stp.valS ?_ | refine Stp.look ?_ | refine Stp.eff ?_ | (refine newN (fun r hr => ?_); simp only [keys, List.nil_append, List.cons_append, List.map_cons, List.map_nil, List.mem_cons, List.not_mem_nil, not_or, or_false, not_false_eq_true] at hr) | ((with_reducible refine BodyR.id ?_); first | refine BodyR.ret ?_) | ((with_reducible refine ResG.id ?_); first | refine ResG.tmp rfl ?_ | refine ResG.cell rfl ?_ | refine ResG.nil ?_) | ((with_reducible refine LoadIs.id ?_); first | refine LoadIs.agg (by repeat first | exact HGet.hit) rfl rfl rfl ?_) | ((with_reducible refine Upd.id ?_); first | (refine Upd.lit rfl ?_; (conv => whnf)))
      all_goals exact Fin.weak (Weaker.tup (.cons weak0 (.cons (.refl _) .nil)))
    · repeat' first | refine Ops.tag rfl ?_ | (with_reducible first | refine OpsT.no' ?_) | (refine OpsT.go ?_; (conv => arg 7; whnf)) | (with_reducible first | refine Stp.orT ?_) | ((with_reducible refine Stp.isNe ?_); first | refine Stp.neT ?_) | refine Stp.pure rfl ?_ | ((with_reducible refine PutK.isSet ?_); refine PutK.set (by repeat first | exact HsetIs.hit) ?_) | refine PutK.mk' rfl ?_ | refine Ops.nil ?_ | ((with_reducible refine Look.id ?_); refine Look.auto ?_ (by repeat first | exact HGet.hit | apply HGet.miss (by omega)); try (conv => arg 7; whnf)) | ((with_reducible refine Side.id ?_); first | refine Side.auto ?_) | ((with_reducible refine Br.id ?_); first | (with_reducible first | refine br_true rfl ?_)) | ((with_reducible refine SemWp.id ?_); first | refine sem_seq ?_ | refine sem_region rfl ?_ | refine sem_cond rfl ?_ | refine sem_ret ?_) | ((with_reducible refine qThen.id ?_); first | refine qThen.go ?_ | refine qThen.ret ?_) | refine Stp.valS ?_ | refine Stp.look ?_ | refine Stp.eff ?_ | (refine newN (fun r hr => ?_); simp only [keys, List.nil_append, List.cons_append, List.map_cons, List.map_nil, List.mem_cons, List.not_mem_nil, not_or, or_false, not_false_eq_true] at hr) | ((with_reducible refine BodyR.id ?_); first | refine BodyR.ret ?_) | ((with_reducible refine ResG.id ?_); first | refine ResG.tmp rfl ?_ | refine ResG.cell rfl ?_ | refine ResG.nil ?_) | ((with_reducible refine LoadIs.id ?_); first | refine LoadIs.agg (by repeat first | exact HGet.hit) rfl rfl rfl ?_) | ((with_reducible refine Upd.id ?_); first | (refine Upd.lit rfl ?_; (conv => whnf)))
      all_goals exact Fin.weak (Weaker.tup (.cons weak0 (.cons (.refl _) .nil)))
set_option maxHeartbeats 1000000 in
theorem rValue_spec (a : GA) (x w : List GI) (ha : SmA a) (hx : ∀ g ∈ x, Sm g) (hw : ∀ g ∈ w, Sm g) (nx : x.length ≤ 60) (nw : w.length ≤ 60) : Pur cx 18 [encA a, LIs x, LIs w] (valV a x w) := by
  obtain ⟨ax, aw, ⟨kn, kl⟩⟩ := a
  have hax : ∀ g ∈ ax, Sm g := ha.x
  have haw : ∀ g ∈ aw, Sm g := ha.w
  have hk : Sm ⟨kn, kl⟩ := ha.k
  have nax : ax.length ≤ 60 := ha.lx
  have naw : aw.length ≤ 60 := ha.lw
  have m1 : (ax.map encI).length = ax.length := by simp
  have m2 : (aw.map encI).length = aw.length := by simp
  have m3 : (x.map encI).length = x.length := by simp
  have m4 : (w.map encI).length = w.length := by simp
  change Pur cx _ [encA' ax aw kn kl, LIs x, LIs w] _
  refine Pur.ofW (sem_calls' cx (fn := Try.f18) rfl rfl rfl rfl ?_)
  by_cases hl : ax.length = x.length ∧ aw.length = w.length
  · obtain ⟨l1, l2⟩ := hl
    have e : valV ⟨ax, aw, ⟨kn, kl⟩⟩ x w = .tup [encI (ofZ (dotZ ax x + dotZ aw w + toZ ⟨kn, kl⟩)), ii 0] := by unfold valV; rw [if_pos ⟨l1, l2⟩]; rfl
    rw [e]
    have b0 := bnd1 hk
    have A0 := rAdd_spec ⟨kn, kl⟩ gi0 hk.ok sm0.ok (by have := hk.len; omega) (by decide)
    rw [toZ_gi0, Int.add_zero] at A0
    have A0' := A0.args (ys := [encP kn kl, .agg [bb false, .v (.slice none 0 0)]]) (.cons (.refl _) (.cons weak0 .nil))
    repeat' first | refine Ops.tag rfl ?_ | ((with_reducible first | refine OpsT.yes' ?_); (conv => arg 7; whnf)) | (refine OpsT.go ?_; (conv => arg 7; whnf)) | (with_reducible first | refine Stp.orF ?_) | ((with_reducible refine Stp.isNe ?_); first | refine Stp.neF ?_) | refine Stp.pure rfl ?_ | ((with_reducible refine PutK.isSet ?_); refine PutK.set (by repeat first | exact HsetIs.hit) ?_) | refine PutK.mk' rfl ?_ | refine Ops.nil ?_ | ((with_reducible refine Look.id ?_); refine Look.auto ?_ (by repeat first | exact HGet.hit | apply HGet.miss (by omega)); try (conv => arg 7; whnf)) | ((with_reducible refine Side.id ?_); first | refine Side.auto ?_) | ((with_reducible refine Br.id ?_); first | (with_reducible first | refine br_false rfl ?_)) | ((with_reducible refine SemWp.id ?_); first | refine sem_seq ?_ | refine sem_region rfl ?_ | refine sem_cond rfl ?_ | refine sem_block ?_ | refine sem_skip ?_) | ((with_reducible refine qThen.id ?_); first | refine qThen.go ?_) | refine Stp.valS ?_ | refine Stp.look ?_ | refine Stp.call ?_ | refine Stp.eff ?_ | ((with_reducible refine CallWp.id ?_); first | refine Pur.call (A0') ?_) | (refine newN (fun r hr => ?_); simp only [keys, List.nil_append, List.cons_append, List.map_cons, List.map_nil, List.mem_cons, List.not_mem_nil, not_or, or_false, not_false_eq_true] at hr) | ((with_reducible refine Upd.id ?_); first | (refine Upd.lit rfl ?_; (conv => whnf)))
    rename_i r3 h3 r6 h6
    generalize hkz : toZ ⟨kn, kl⟩ = kz at *
    refine sem_loop cx (ι := Nat) (fun i => i ≤ ax.length) (fun i => [(1, .sure, LIs x), (2, .sure, LIs w), (3, .sure, .ptr r3 0), (6, .sure, .ptr r6 0), (8, .sure, .ptr r 0), (9, .sure, ii i)]) (fun i => [(r, .cells [bb (ofZ (kz + psum (dotF ax x) i)).neg, LL (ofZ (kz + psum (dotF ax x) i)).l] 40), (r6, .cells [bb false, .v (.slice none 0 0)] 40), (r3, .cells [LIs ax, LIs aw, bb kn, LL kl] 42)]) (fun i => ax.length - i) 0 (Nat.zero_le _) (by repeat' first | exact Sub.nil _ | refine Sub.auto ?_) (Subp.of_eq (by simp only [psum, Int.add_zero]; rfl)) ?_
    intro i hi
    have bi := psum_lt hax hx (n := i) (by omega)
    obtain ⟨o1, o2⟩ := ofZ_ok (B82 (bnd b0 bi) (by omega)) (by omega)
    by_cases hia : i < ax.length
    · have g1 : (ax.map encI).getD (i : Int).toNat default = encP (ax.getD i gi0).neg (ax.getD i gi0).l := getD_int (n := i) rfl hia
      have g2 : (x.map encI).getD (i : Int).toNat default = encP (x.getD i gi0).neg (x.getD i gi0).l := getD_int (n := i) rfl (by omega)
      have M := rMul_spec (ax.getD i gi0) (x.getD i gi0) (sm_getD hax i).ok (sm_getD hx i).ok (by have := (sm_getD hax i).len; omega) (by have := (sm_getD hx i).len; omega)
      obtain ⟨o3, o4⟩ := ofZ_ok (B82 (k := 1) (by have := dotF_le hax hx i; omega) (by omega)) (by omega) (z := dotF ax x i)
      have A := rAdd_spec _ _ o1 o3 o2 o4
      rw [toZ_ofZ, toZ_ofZ, Int.add_assoc] at A
      change Pur cx _ _ (encI (ofZ (dotF ax x i))) at M
      change Pur cx _ _ (encI (ofZ (kz + psum (dotF ax x) (i + 1)))) at A
      repeat' first | (refine drawE' cx [(_, _)] [(_, _), (_, _)] [0, 12] (List.Perm.refl _) (by decide +kernel) rfl ?_) | refine Ops.tag rfl ?_ | (refine OpsT.go ?_; (conv => arg 7; whnf)) | ((with_reducible refine Stp.isSum ?_); refine Stp.sum ?_) | ((with_reducible refine Stp.isDec ?_); first | refine Stp.decT ?_) | refine Stp.pure rfl ?_ | refine Ops.nil ?_ | (refine DOps.cons rfl rfl ?_; (conv => arg 7; whnf)) | refine DStp.pure rfl ?_ | refine PutD.mk' rfl ?_ | refine DOps.nil rfl ?_ | ((with_reducible refine Look.id ?_); refine Look.auto ?_ (by repeat first | exact HGet.hit | apply HGet.miss (by omega)); try (conv => arg 7; whnf)) | ((with_reducible refine Side.id ?_); first | refine Side.auto ?_) | ((with_reducible refine Br.id ?_); first | (with_reducible first | refine br_true rfl ?_)) | ((with_reducible refine SemWp.id ?_); first | refine sem_seq ?_ | refine sem_region rfl ?_ | refine sem_cond rfl ?_ | refine sem_block ?_ | refine sem_skip ?_ | refine sem_draw ?_) | ((with_reducible refine qThen.id ?_); first | refine qThen.go ?_) | ((with_reducible refine hinBlock.id ?_); first | refine hinBlock.go ?_) | ((with_reducible refine hround.id ?_); first | refine hround.go ?_) | refine DStp.valS ?_ | refine DStp.look ?_ | refine DStp.call ?_ | ((with_reducible refine QAsk.id ?_); first | (refine Pur.ask (M) ?_ ?_; focus (intro h; first | exact rfl)) | (refine Pur.ask (A) ?_ ?_; focus (intro h; first | exact rfl))) | (refine DOps.turn rfl rfl rfl ?_; (conv => arg 7; whnf)) | refine TStp.look ?_ | refine TStp.pure ?_ | rw [g1] | rw [g2] | refine TStp.upd [(_, .cells _ _)] rfl rfl HsetIs.hit ?_
      exact Fin.mk ⟨i + 1, by omega, by omega, by repeat' first | exact Sub.nil _ | refine Sub.auto ?_, Subp.of_eq rfl⟩
    · have : i = ax.length := by omega
      subst this
      repeat' first | refine Ops.tag rfl ?_ | (refine OpsT.go ?_; (conv => arg 7; whnf)) | ((with_reducible refine Stp.isDec ?_); first | refine Stp.decF ?_) | refine Stp.pure rfl ?_ | refine Ops.nil ?_ | ((with_reducible refine Br.id ?_); first | (with_reducible first | refine br_false rfl ?_)) | ((with_reducible refine SemWp.id ?_); first | refine sem_seq ?_ | refine sem_region rfl ?_ | refine sem_cond rfl ?_ | refine sem_block ?_ | refine sem_exit ?_) | ((with_reducible refine qThen.id ?_); first | refine qThen.go ?_)
      refine sem_loop cx (ι := Nat) (fun i => i ≤ aw.length) (fun i => [(1, .sure, LIs x), (2, .sure, LIs w), (3, .sure, .ptr r3 0), (6, .sure, .ptr r6 0), (8, .sure, .ptr r 0), (10, .sure, ii i)]) (fun i => [(r, .cells [bb (ofZ (kz + dotZ ax x + psum (dotF aw w) i)).neg, LL (ofZ (kz + dotZ ax x + psum (dotF aw w) i)).l] 40), (r6, .cells [bb false, .v (.slice none 0 0)] 40), (r3, .cells [LIs ax, LIs aw, bb kn, LL kl] 42)]) (fun i => aw.length - i) 0 (Nat.zero_le _) (by repeat' first | exact Sub.nil _ | refine Sub.auto ?_) (Subp.of_eq (by simp only [psum, Int.add_zero]; rfl)) ?_
      intro j hj
      have bj := psum_lt haw hw (n := j) (by omega)
      obtain ⟨o1, o2⟩ := ofZ_ok (B82 (bnd (bnd b0 bi) bj) (by omega)) (by omega)
      by_cases hja : j < aw.length
      · have g1 : (aw.map encI).getD (j : Int).toNat default = encP (aw.getD j gi0).neg (aw.getD j gi0).l := getD_int (n := j) rfl hja
        have g2 : (w.map encI).getD (j : Int).toNat default = encP (w.getD j gi0).neg (w.getD j gi0).l := getD_int (n := j) rfl (by omega)
        have M := rMul_spec (aw.getD j gi0) (w.getD j gi0) (sm_getD haw j).ok (sm_getD hw j).ok (by have := (sm_getD haw j).len; omega) (by have := (sm_getD hw j).len; omega)
        obtain ⟨o3, o4⟩ := ofZ_ok (B82 (k := 1) (by have := dotF_le haw hw j; omega) (by omega)) (by omega) (z := dotF aw w j)
        have A := rAdd_spec _ _ o1 o3 o2 o4
        rw [toZ_ofZ, toZ_ofZ] at A
        change Pur cx _ _ (encI (ofZ (dotF aw w j))) at M
        have e3 : kz + psum (dotF ax x) ax.length + psum (dotF aw w) j + dotF aw w j = kz + psum (dotF ax x) ax.length + psum (dotF aw w) (j + 1) := by simp only [psum]; omega
        rw [e3] at A
        repeat' first | (refine drawE' cx [(_, _)] [(_, _), (_, _)] [0, 12] (List.Perm.refl _) (by decide +kernel) rfl ?_) | refine Ops.tag rfl ?_ | (refine OpsT.go ?_; (conv => arg 7; whnf)) | ((with_reducible refine Stp.isSum ?_); refine Stp.sum ?_) | ((with_reducible refine Stp.isDec ?_); first | refine Stp.decT ?_) | refine Stp.pure rfl ?_ | refine Ops.nil ?_ | (refine DOps.cons rfl rfl ?_; (conv => arg 7; whnf)) | refine DStp.pure rfl ?_ | refine PutD.mk' rfl ?_ | refine DOps.nil rfl ?_ | ((with_reducible refine Look.id ?_); refine Look.auto ?_ (by repeat first | exact HGet.hit | apply HGet.miss (by omega)); try (conv => arg 7; whnf)) | ((with_reducible refine Side.id ?_); first | refine Side.auto ?_) | ((with_reducible refine Br.id ?_); first | (with_reducible first | refine br_true rfl ?_)) | ((with_reducible refine SemWp.id ?_); first | refine sem_seq ?_ | refine sem_region rfl ?_ | refine sem_cond rfl ?_ | refine sem_block ?_ | refine sem_skip ?_ | refine sem_draw ?_) | ((with_reducible refine qThen.id ?_); first | refine qThen.go ?_) | ((with_reducible refine hinBlock.id ?_); first | refine hinBlock.go ?_) | ((with_reducible refine hround.id ?_); first | refine hround.go ?_) | refine DStp.valS ?_ | refine DStp.look ?_ | refine DStp.call ?_ | ((with_reducible refine QAsk.id ?_); first | (refine Pur.ask (M) ?_ ?_; focus (intro h; first | exact rfl)) | (refine Pur.ask (A) ?_ ?_; focus (intro h; first | exact rfl))) | (refine DOps.turn rfl rfl rfl ?_; (conv => arg 7; whnf)) | refine TStp.look ?_ | refine TStp.pure ?_ | rw [g1] | rw [g2] | refine TStp.upd [(_, .cells _ _)] rfl rfl HsetIs.hit ?_
        exact Fin.mk ⟨j + 1, by omega, by omega, by repeat' first | exact Sub.nil _ | refine Sub.auto ?_, Subp.of_eq rfl⟩
      · have : j = aw.length := by omega
        subst this
        repeat' first | refine Ops.tag rfl ?_ | (refine OpsT.go ?_; (conv => arg 7; whnf)) | ((with_reducible refine Stp.isDec ?_); first | refine Stp.decF ?_) | refine Stp.pure rfl ?_ | ((with_reducible refine PutK.isSet ?_); refine PutK.set (by repeat first | exact HsetIs.hit | apply HsetIs.miss (by omega)) ?_) | refine PutK.mk' rfl ?_ | refine Ops.nil ?_ | ((with_reducible refine Look.id ?_); refine Look.auto ?_ (by repeat first | exact HGet.hit | apply HGet.miss (by omega)); try (conv => arg 7; whnf)) | ((with_reducible refine Br.id ?_); first | (with_reducible first | refine br_false rfl ?_)) | ((with_reducible refine SemWp.id ?_); first | refine sem_seq ?_ | refine sem_region rfl ?_ | refine sem_cond rfl ?_ | refine sem_exit ?_ | refine sem_ret ?_) | ((with_reducible refine qThen.id ?_); first | refine qThen.go ?_) | refine Stp.look ?_ | refine Stp.eff ?_ | ((with_reducible refine BodyR.id ?_); first | refine BodyR.ret ?_) | ((with_reducible refine ResG.id ?_); first | refine ResG.tmp rfl ?_ | refine ResG.cell rfl ?_ | refine ResG.nil ?_) | ((with_reducible refine LoadIs.id ?_); first | refine LoadIs.agg (by repeat first | exact HGet.hit | apply HGet.miss (by omega)) rfl rfl rfl ?_) | ((with_reducible refine Upd.id ?_); first | (refine Upd.lit rfl ?_; (conv => whnf)))
        refine Fin.weak (Weaker.eq ?_)
        have e2 : kz + dotZ ax x + psum (dotF aw w) aw.length = dotZ ax x + dotZ aw w + kz := by unfold dotZ; omega
        rw [← e2]
        rfl
  · have e : valV ⟨ax, aw, ⟨kn, kl⟩⟩ x w = .tup [encI gi0, ii 1] := by unfold valV; rw [if_neg hl]
    rw [e]
    by_cases l1 : ax.length = x.length
    · repeat' first | refine Ops.tag rfl ?_ | ((with_reducible first | refine OpsT.yes' ?_); (conv => arg 7; whnf)) | (refine OpsT.go ?_; (conv => arg 7; whnf)) | (with_reducible first | refine Stp.orF ?_) | ((with_reducible refine Stp.isNe ?_); first | refine Stp.neT ?_ | refine Stp.neF ?_) | refine Stp.pure rfl ?_ | ((with_reducible refine PutK.isSet ?_); refine PutK.set (by repeat first | exact HsetIs.hit) ?_) | refine PutK.mk' rfl ?_ | refine Ops.nil ?_ | ((with_reducible refine Look.id ?_); refine Look.auto ?_ (by repeat first | exact HGet.hit | apply HGet.miss (by omega)); try (conv => arg 7; whnf)) | ((with_reducible refine Side.id ?_); first | refine Side.auto ?_) | ((with_reducible refine Br.id ?_); first | (with_reducible first | refine br_true rfl ?_)) | ((with_reducible refine SemWp.id ?_); first | refine sem_seq ?_ | refine sem_region rfl ?_ | refine sem_cond rfl ?_ | refine sem_ret ?_) | ((with_reducible refine qThen.id ?_); first | refine qThen.go ?_ | refine qThen.ret ?_) | refine Stp.valS ?_ | refine Stp.look ?_ | refine Stp.eff ?_ | (refine newN (fun r hr => ?_); simp only [keys, List.nil_append, List.cons_append, List.map_cons, List.map_nil, List.mem_cons, List.not_mem_nil, not_or, or_false, not_false_eq_true] at hr) | ((with_reducible refine BodyR.id ?_); first | refine BodyR.ret ?_) | ((with_reducible refine ResG.id ?_); first | refine ResG.tmp rfl ?_ | refine ResG.cell rfl ?_ | refine ResG.nil ?_) | ((with_reducible refine LoadIs.id ?_); first | refine LoadIs.agg (by repeat first | exact HGet.hit) rfl rfl rfl ?_) | ((with_reducible refine Upd.id ?_); first | (refine Upd.lit rfl ?_; (conv => whnf)))
      all_goals exact Fin.weak (Weaker.tup (.cons weak0 (.cons (.refl _) .nil)))
    · repeat' first | refine Ops.tag rfl ?_ | (with_reducible first | refine OpsT.no' ?_) | (refine OpsT.go ?_; (conv => arg 7; whnf)) | (with_reducible first | refine Stp.orT ?_) | ((with_reducible refine Stp.isNe ?_); first | refine Stp.neT ?_) | refine Stp.pure rfl ?_ | ((with_reducible refine PutK.isSet ?_); refine PutK.set (by repeat first | exact HsetIs.hit) ?_) | refine PutK.mk' rfl ?_ | refine Ops.nil ?_ | ((with_reducible refine Look.id ?_); refine Look.auto ?_ (by repeat first | exact HGet.hit | apply HGet.miss (by omega)); try (conv => arg 7; whnf)) | ((with_reducible refine Side.id ?_); first | refine Side.auto ?_) | ((with_reducible refine Br.id ?_); first | (with_reducible first | refine br_true rfl ?_)) | ((with_reducible refine SemWp.id ?_); first | refine sem_seq ?_ | refine sem_region rfl ?_ | refine sem_cond rfl ?_ | refine sem_ret ?_) | ((with_reducible refine qThen.id ?_); first | refine qThen.go ?_ | refine qThen.ret ?_) | refine Stp.valS ?_ | refine Stp.look ?_ | refine Stp.eff ?_ | (refine newN (fun r hr => ?_); simp only [keys, List.nil_append, List.cons_append, List.map_cons, List.map_nil, List.mem_cons, List.not_mem_nil, not_or, or_false, not_false_eq_true] at hr) | ((with_reducible refine BodyR.id ?_); first | refine BodyR.ret ?_) | ((with_reducible refine ResG.id ?_); first | refine ResG.tmp rfl ?_ | refine ResG.cell rfl ?_ | refine ResG.nil ?_) | ((with_reducible refine LoadIs.id ?_); first | refine LoadIs.agg (by repeat first | exact HGet.hit) rfl rfl rfl ?_) | ((with_reducible refine Upd.id ?_); first | (refine Upd.lit rfl ?_; (conv => whnf)))
      all_goals exact Fin.weak (Weaker.tup (.cons weak0 (.cons (.refl _) .nil)))
end Go.Proofs.Hk

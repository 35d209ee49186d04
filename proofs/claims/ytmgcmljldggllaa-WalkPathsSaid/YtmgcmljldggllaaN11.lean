import Derived.Test.YtmgcmljldggllaaN9
set_option linter.unusedSimpArgs false
set_option linter.unusedVariables false
namespace Go.Proofs.Hk
open Go Go.Proofs

theorem rOf_spec (z : Int) (h : -9223372036854775808 ≤ z ∧ z ≤ 9223372036854775807) : Pur cx 41 [ii z] (encI (ofZ z)) := by
  have hL : Lim [z.natAbs % B, z.natAbs / B] := Lim.cons (Nat.mod_lt _ B_pos) (Lim.cons (Nat.div_lt_of_lt_mul (by show z.natAbs < 4294967296 * 4294967296; omega)) Lim.nil)
  have hv : vl [z.natAbs % B, z.natAbs / B] = z.natAbs := by simp only [vl, Nat.mul_zero, Nat.add_zero]; exact Nat.mod_add_div _ _
  have hM := (rmk_spec (decide (z < 0)) _ hL (by simp)).args (ys := [bb (decide (z < 0)), .list .full 1 ([z.natAbs % B, z.natAbs / B].map u32)]) (.cons (.refl _) (.cons (Weaker.tok _ _ _) .nil))
  have e : sg (decide (z < 0)) z.natAbs = z := by
    unfold sg
    by_cases hz : z < 0
    · rw [if_pos (decide_eq_true hz)]; omega
    · rw [if_neg (by simpa using hz)]; omega
  rw [hv, e] at hM
  refine Pur.of (sem_calls' cx (fn := Try.f41) rfl rfl rfl rfl ?_)
  by_cases hz : z < 0
  · have e1 : IntKind.u64.wrap (0 - IntKind.u64.wrap z) = (z.natAbs : Int) := by rw [u64_wrap, u64_wrap]; omega
    have hl : [HV.v (.int .u32 (IntKind.u32.wrap (IntKind.u64.wrap (0 - IntKind.u64.wrap z)))), HV.v (.int .u32 (IntKind.u32.wrap ((IntKind.u64.wrap (0 - IntKind.u64.wrap z)).fdiv (2 ^ (min (Int.toNat 32) 64)))))] = [z.natAbs % B, z.natAbs / B].map u32 := by
      rw [e1, shr32, IntKind.wrap_u32, IntKind.wrap_u32, mod32, mod32, Nat.mod_eq_of_lt (a := z.natAbs / B) (Nat.div_lt_of_lt_mul (by show z.natAbs < 4294967296 * 4294967296; omega))]
      rfl
    rw [← hl, decide_eq_true hz] at hM
    repeat' first | refine Ops.tag rfl ?_ | (refine OpsT.go ?_; (conv => arg 7; whnf)) | ((with_reducible refine Stp.isDec ?_); first | refine Stp.decT ?_) | refine Stp.pure rfl ?_ | ((with_reducible refine PutK.isSet ?_); refine PutK.set (by repeat first | exact HsetIs.hit) ?_) | refine PutK.mk' rfl ?_ | refine Ops.nil ?_ | ((with_reducible refine Look.id ?_); refine Look.auto ?_ (by repeat first | exact HGet.hit); try (conv => arg 7; whnf)) | ((with_reducible refine Side.id ?_); first | refine Side.auto ?_) | ((with_reducible refine Br.id ?_); first | (with_reducible first | refine br_true rfl ?_)) | ((with_reducible refine SemWp.id ?_); first | refine sem_seq ?_ | refine sem_region rfl ?_ | refine sem_cond rfl ?_ | refine sem_ret ?_) | ((with_reducible refine qThen.id ?_); first | refine qThen.go ?_) | refine Stp.valS ?_ | refine Stp.look ?_ | refine Stp.call ?_ | refine Stp.eff ?_ | ((with_reducible refine CallWp.id ?_); first | refine Pur.call (hM) ?_) | (refine newN (fun r hr => ?_); simp only [keys, List.nil_append, List.cons_append, List.map_cons, List.map_nil, List.mem_cons, List.not_mem_nil, not_or, or_false, not_false_eq_true] at hr) | ((with_reducible refine BodyR.id ?_); first | refine BodyR.ret ?_) | ((with_reducible refine ResG.id ?_); first | refine ResG.cell rfl ?_ | refine ResG.nil ?_) | ((with_reducible refine LoadIs.id ?_); first | refine LoadIs.agg (by repeat first | exact HGet.hit) rfl rfl rfl ?_) | ((with_reducible refine Upd.id ?_); first | (refine Upd.lit rfl ?_; (conv => whnf)))
    exact Fin.mk rfl
  · have e1 : z = (z.natAbs : Int) := by omega
    have hl : [HV.v (.int .u32 (IntKind.u32.wrap z)), HV.v (.int .u32 (IntKind.u32.wrap (z.fdiv (2 ^ (min (Int.toNat 32) 64)))))] = [z.natAbs % B, z.natAbs / B].map u32 := by
      conv => lhs; rw [e1]
      rw [shr32, IntKind.wrap_u32, IntKind.wrap_u32, mod32, mod32, Nat.mod_eq_of_lt (a := z.natAbs / B) (Nat.div_lt_of_lt_mul (by show z.natAbs < 4294967296 * 4294967296; omega))]
      rfl
    rw [← hl, decide_eq_false hz] at hM
    repeat' first | refine Ops.tag rfl ?_ | (refine OpsT.go ?_; (conv => arg 7; whnf)) | ((with_reducible refine Stp.isSumU ?_); refine Stp.sumU ?_) | ((with_reducible refine Stp.isDec ?_); first | refine Stp.decF ?_) | refine Stp.pure rfl ?_ | ((with_reducible refine PutK.isSet ?_); refine PutK.set (by repeat first | exact HsetIs.hit) ?_) | refine PutK.mk' rfl ?_ | refine Ops.nil ?_ | ((with_reducible refine Look.id ?_); refine Look.auto ?_ (by repeat first | exact HGet.hit); try (conv => arg 7; whnf)) | ((with_reducible refine Side.id ?_); first | refine Side.auto ?_) | ((with_reducible refine Br.id ?_); first | (with_reducible first | refine br_false rfl ?_)) | ((with_reducible refine SemWp.id ?_); first | refine sem_seq ?_ | refine sem_region rfl ?_ | refine sem_cond rfl ?_ | refine sem_ret ?_ | refine sem_skip ?_) | ((with_reducible refine qThen.id ?_); first | refine qThen.go ?_) | refine Stp.valS ?_ | refine Stp.look ?_ | refine Stp.call ?_ | refine Stp.eff ?_ | ((with_reducible refine CallWp.id ?_); first | refine Pur.call (hM) ?_) | (refine newN (fun r hr => ?_); simp only [keys, List.nil_append, List.cons_append, List.map_cons, List.map_nil, List.mem_cons, List.not_mem_nil, not_or, or_false, not_false_eq_true] at hr) | ((with_reducible refine BodyR.id ?_); first | refine BodyR.ret ?_) | ((with_reducible refine ResG.id ?_); first | refine ResG.cell rfl ?_ | refine ResG.nil ?_) | ((with_reducible refine LoadIs.id ?_); first | refine LoadIs.agg (by repeat first | exact HGet.hit) rfl rfl rfl ?_) | ((with_reducible refine Upd.id ?_); first | (refine Upd.lit rfl ?_; (conv => whnf)))
    exact Fin.mk rfl
set_option maxHeartbeats 1000000 in
theorem rAdd_spec (g h : GI) (hg : g.Ok) (hh : h.Ok) (lg : g.l.length ≤ 1000000) (lh : h.l.length ≤ 1000000) : Pur cx 44 [encI g, encI h] (encI (ofZ (toZ g + toZ h))) := by
  have n1 := nl_len hg
  have n2 := nl_len hh
  have L1 := rnorm_spec g hg
  have L2 := rnorm_spec h hh
  generalize toZ g = x at *
  generalize toZ h = y at *
  have A := radd_spec (nl x.natAbs) (nl y.natAbs) (nl_lim _) (nl_lim _) (by omega) (by omega)
  have C := rcmp_spec (nl x.natAbs) (nl y.natAbs) (nl_lim _) (nl_lim _) (nl_top _) (nl_top _) (by omega) (by omega)
  rw [vl_nl, vl_nl] at A C
  have vx := vl_lt (nl_lim x.natAbs)
  have vy := vl_lt (nl_lim y.natAbs)
  rw [vl_nl] at vx vy
  have hmk : ∀ (s : Bool) (V : Nat), V ≤ x.natAbs + y.natAbs → Pur cx 53 [bb s, LL (nl V)] (encI (ofZ (sg s V))) := fun s V hV => by
    have hl : (nl V).length ≤ max (nl x.natAbs).length (nl y.natAbs).length + 1 := nl_len_lt (by
      have p1 : B ^ (nl x.natAbs).length ≤ B ^ (max (nl x.natAbs).length (nl y.natAbs).length) := Nat.pow_le_pow_right B_pos (by omega)
      have p2 : B ^ (nl y.natAbs).length ≤ B ^ (max (nl x.natAbs).length (nl y.natAbs).length) := Nat.pow_le_pow_right B_pos (by omega)
      have p3 : B ^ (max (nl x.natAbs).length (nl y.natAbs).length) * 2 ≤ B ^ (max (nl x.natAbs).length (nl y.natAbs).length) * B := Nat.mul_le_mul_left _ (by decide)
      rw [Nat.pow_succ]
      omega)
    have := rmk_spec s (nl V) (nl_lim _) (by omega)
    rwa [vl_nl] at this
  change Pur cx _ [encP g.neg g.l, encP h.neg h.l] _ at *
  by_cases hs : (decide (x < 0)) = (decide (y < 0))
  · have hb : ((ofZ x).neg == (ofZ y).neg) = true := by show (decide (x < 0) == decide (y < 0)) = true; simp [hs]
    have M := hmk (decide (x < 0)) (x.natAbs + y.natAbs) (Nat.le_refl _)
    have e : sg (decide (x < 0)) (x.natAbs + y.natAbs) = x + y := by
      rw [decide_eq_decide] at hs
      unfold sg
      by_cases h : x < 0
      · rw [if_pos (decide_eq_true h)]; omega
      · rw [if_neg (by simpa using h)]; omega
    rw [e] at M
    refine Pur.of (sem_calls' cx (fn := Try.f44) rfl rfl rfl rfl ?_)
    repeat' first | (refine drawE' cx [(_, _)] [(_, _), (_, _)] [8] (List.Perm.refl _) (by decide +kernel) rfl ?_) | refine Ops.tag rfl ?_ | (refine OpsT.go ?_; (conv => arg 7; whnf)) | refine Stp.pure rfl ?_ | ((with_reducible refine PutK.isSet ?_); refine PutK.set (by repeat first | exact HsetIs.hit | apply HsetIs.miss (by omega)) ?_) | refine PutK.mk' rfl ?_ | refine Ops.nil ?_ | (refine DOps.cons rfl rfl ?_; (conv => arg 7; whnf)) | refine DStp.pure rfl ?_ | refine PutD.mk' rfl ?_ | refine DOps.nil rfl ?_ | ((with_reducible refine Look.id ?_); refine Look.auto ?_ (by repeat first | exact HGet.hit | apply HGet.miss (by omega)); try (conv => arg 7; whnf)) | ((with_reducible refine Side.id ?_); first | refine Side.auto ?_) | ((with_reducible refine Br.id ?_); first | refine br_true (by with_reducible assumption) ?_) | ((with_reducible refine SemWp.id ?_); first | refine sem_seq ?_ | refine sem_region rfl ?_ | refine sem_cond rfl ?_ | refine sem_ret ?_ | refine sem_draw ?_) | ((with_reducible refine qThen.id ?_); first | refine qThen.go ?_ | refine qThen.ret ?_) | refine Stp.valS ?_ | refine Stp.look ?_ | refine Stp.call ?_ | refine Stp.eff ?_ | refine DStp.valS ?_ | refine DStp.look ?_ | refine DStp.call ?_ | ((with_reducible refine CallWp.id ?_); first | refine Pur.call (L1) ?_ | refine Pur.call (L2) ?_) | ((with_reducible refine QAsk.id ?_); first | (refine Pur.ask (A) ?_ ?_; focus (intro h; first | exact rfl)) | (refine Pur.ask (M) ?_ ?_; focus (intro h; first | exact rfl))) | (refine newN (fun r hr => ?_); simp only [keys, List.nil_append, List.cons_append, List.map_cons, List.map_nil, List.mem_cons, List.not_mem_nil, not_or, or_false, not_false_eq_true] at hr) | ((with_reducible refine BodyR.id ?_); first | refine BodyR.ret ?_) | ((with_reducible refine ResG.id ?_); first | refine ResG.cell rfl ?_ | refine ResG.nil ?_) | ((with_reducible refine LoadIs.id ?_); first | refine LoadIs.agg (by repeat first | exact HGet.hit) rfl rfl rfl ?_) | ((with_reducible refine Upd.id ?_); first | (refine Upd.lit rfl ?_; (conv => whnf))) | (refine DOps.turn rfl rfl rfl ?_; (conv => arg 7; whnf)) | refine TStp.look ?_ | refine TStp.upd [(_, .cells _ 40)] rfl rfl HsetIs.hit ?_
    exact Fin.mk rfl
  · have hb : ((ofZ x).neg == (ofZ y).neg) = false := by show (decide (x < 0) == decide (y < 0)) = false; simp [hs]
    by_cases hxy : y.natAbs ≤ x.natAbs
    · have Mi := rsub_spec (nl x.natAbs) (nl y.natAbs) (nl_lim _) (nl_lim _) (by
        rcases Nat.eq_or_lt_of_le hxy with h | h
        · rw [h]; exact Nat.le_refl _
        · exact nl_len_lt (by omega)) (by omega) (by rw [vl_nl, vl_nl]; exact hxy)
      rw [vl_nl, vl_nl] at Mi
      have M := hmk (decide (x < 0)) (x.natAbs - y.natAbs) (by omega)
      have e : sg (decide (x < 0)) (x.natAbs - y.natAbs) = x + y := by
        rw [decide_eq_decide] at hs
        unfold sg
        by_cases h : x < 0
        · rw [if_pos (decide_eq_true h)]; omega
        · rw [if_neg (by simpa using h)]; omega
      rw [e] at M
      have hc : 0 ≤ cmpZ (x.natAbs : Int) (y.natAbs : Int) := by
        rcases Nat.eq_or_lt_of_le hxy with h | h
        · rw [cmpZ_eq (by omega)]; omega
        · rw [cmpZ_gt (by omega)]; omega
      refine Pur.of (sem_calls' cx (fn := Try.f44) rfl rfl rfl rfl ?_)
      repeat' first | (refine drawE' cx [(_, _)] [(_, _), (_, _)] [8] (List.Perm.refl _) (by decide +kernel) rfl ?_) | refine Ops.tag rfl ?_ | (refine OpsT.go ?_; (conv => arg 7; whnf)) | ((with_reducible refine Stp.isDec ?_); first | refine Stp.decT ?_) | refine Stp.pure rfl ?_ | ((with_reducible refine PutK.isSet ?_); refine PutK.set (by repeat first | exact HsetIs.hit | apply HsetIs.miss (by omega)) ?_) | refine PutK.mk' rfl ?_ | refine Ops.nil ?_ | (refine DOps.cons rfl rfl ?_; (conv => arg 7; whnf)) | refine DStp.pure rfl ?_ | refine PutD.mk' rfl ?_ | refine DOps.nil rfl ?_ | ((with_reducible refine Look.id ?_); refine Look.auto ?_ (by repeat first | exact HGet.hit | apply HGet.miss (by omega)); try (conv => arg 7; whnf)) | ((with_reducible refine Side.id ?_); first | refine Side.auto ?_) | ((with_reducible refine Br.id ?_); first | (with_reducible first | refine br_true rfl ?_) | refine br_false (by with_reducible assumption) ?_) | ((with_reducible refine SemWp.id ?_); first | refine sem_seq ?_ | refine sem_region rfl ?_ | refine sem_cond rfl ?_ | refine sem_ret ?_ | refine sem_skip ?_ | refine sem_draw ?_) | ((with_reducible refine qThen.id ?_); first | refine qThen.go ?_ | refine qThen.ret ?_) | refine Stp.valS ?_ | refine Stp.look ?_ | refine Stp.call ?_ | refine Stp.eff ?_ | refine DStp.valS ?_ | refine DStp.look ?_ | refine DStp.call ?_ | ((with_reducible refine CallWp.id ?_); first | refine Pur.call (L1) ?_ | refine Pur.call (L2) ?_ | refine Pur.call (C) ?_) | ((with_reducible refine QAsk.id ?_); first | (refine Pur.ask (Mi) ?_ ?_; focus (intro h; first | exact rfl)) | (refine Pur.ask (M) ?_ ?_; focus (intro h; first | exact rfl))) | (refine newN (fun r hr => ?_); simp only [keys, List.nil_append, List.cons_append, List.map_cons, List.map_nil, List.mem_cons, List.not_mem_nil, not_or, or_false, not_false_eq_true] at hr) | ((with_reducible refine BodyR.id ?_); first | refine BodyR.ret ?_) | ((with_reducible refine ResG.id ?_); first | refine ResG.cell rfl ?_ | refine ResG.nil ?_) | ((with_reducible refine LoadIs.id ?_); first | refine LoadIs.agg (by repeat first | exact HGet.hit) rfl rfl rfl ?_) | ((with_reducible refine Upd.id ?_); first | (refine Upd.lit rfl ?_; (conv => whnf))) | (refine DOps.turn rfl rfl rfl ?_; (conv => arg 7; whnf)) | refine TStp.look ?_ | refine TStp.upd [(_, .cells _ 40)] rfl rfl HsetIs.hit ?_
      exact Fin.mk rfl
    · have Mi := rsub_spec (nl y.natAbs) (nl x.natAbs) (nl_lim _) (nl_lim _) (nl_len_lt (by omega)) (by omega) (by rw [vl_nl, vl_nl]; omega)
      rw [vl_nl, vl_nl] at Mi
      have M := hmk (decide (y < 0)) (y.natAbs - x.natAbs) (by omega)
      have e : sg (decide (y < 0)) (y.natAbs - x.natAbs) = x + y := by
        rw [decide_eq_decide] at hs
        unfold sg
        by_cases h : y < 0
        · rw [if_pos (decide_eq_true h)]; omega
        · rw [if_neg (by simpa using h)]; omega
      rw [e] at M
      have hc : ¬ 0 ≤ cmpZ (x.natAbs : Int) (y.natAbs : Int) := by rw [cmpZ_lt (by omega)]; omega
      refine Pur.of (sem_calls' cx (fn := Try.f44) rfl rfl rfl rfl ?_)
      repeat' first | (refine drawE' cx [(_, _)] [(_, _), (_, _)] [8] (List.Perm.refl _) (by decide +kernel) rfl ?_) | refine Ops.tag rfl ?_ | (refine OpsT.go ?_; (conv => arg 7; whnf)) | ((with_reducible refine Stp.isDec ?_); first | refine Stp.decF ?_) | refine Stp.pure rfl ?_ | ((with_reducible refine PutK.isSet ?_); refine PutK.set (by repeat first | exact HsetIs.hit | apply HsetIs.miss (by omega)) ?_) | refine PutK.mk' rfl ?_ | refine Ops.nil ?_ | (refine DOps.cons rfl rfl ?_; (conv => arg 7; whnf)) | refine DStp.pure rfl ?_ | refine PutD.mk' rfl ?_ | refine DOps.nil rfl ?_ | ((with_reducible refine Look.id ?_); refine Look.auto ?_ (by repeat first | exact HGet.hit | apply HGet.miss (by omega)); try (conv => arg 7; whnf)) | ((with_reducible refine Side.id ?_); first | refine Side.auto ?_) | ((with_reducible refine Br.id ?_); first | (with_reducible first | refine br_false rfl ?_) | refine br_false (by with_reducible assumption) ?_) | ((with_reducible refine SemWp.id ?_); first | refine sem_seq ?_ | refine sem_region rfl ?_ | refine sem_cond rfl ?_ | refine sem_ret ?_ | refine sem_skip ?_ | refine sem_draw ?_) | ((with_reducible refine qThen.id ?_); first | refine qThen.go ?_) | refine Stp.valS ?_ | refine Stp.look ?_ | refine Stp.call ?_ | refine Stp.eff ?_ | refine DStp.valS ?_ | refine DStp.look ?_ | refine DStp.call ?_ | ((with_reducible refine CallWp.id ?_); first | refine Pur.call (L1) ?_ | refine Pur.call (L2) ?_ | refine Pur.call (C) ?_) | ((with_reducible refine QAsk.id ?_); first | (refine Pur.ask (Mi) ?_ ?_; focus (intro h; first | exact rfl)) | (refine Pur.ask (M) ?_ ?_; focus (intro h; first | exact rfl))) | (refine newN (fun r hr => ?_); simp only [keys, List.nil_append, List.cons_append, List.map_cons, List.map_nil, List.mem_cons, List.not_mem_nil, not_or, or_false, not_false_eq_true] at hr) | ((with_reducible refine BodyR.id ?_); first | refine BodyR.ret ?_) | ((with_reducible refine ResG.id ?_); first | refine ResG.cell rfl ?_ | refine ResG.nil ?_) | ((with_reducible refine LoadIs.id ?_); first | refine LoadIs.agg (by repeat first | exact HGet.hit) rfl rfl rfl ?_) | ((with_reducible refine Upd.id ?_); first | (refine Upd.lit rfl ?_; (conv => whnf))) | (refine DOps.turn rfl rfl rfl ?_; (conv => arg 7; whnf)) | refine TStp.look ?_ | refine TStp.upd [(_, .cells _ 40)] rfl rfl HsetIs.hit ?_
      exact Fin.mk rfl

set_option maxHeartbeats 1000000 in
theorem rMul_spec (g h : GI) (hg : g.Ok) (hh : h.Ok) (lg : g.l.length ≤ 1000000) (lh : h.l.length ≤ 1000000) : Pur cx 45 [encI g, encI h] (encI (ofZ (toZ g * toZ h))) := by
  have n1 := nl_len hg
  have n2 := nl_len hh
  have L1 := rnorm_spec g hg
  have L2 := rnorm_spec h hh
  generalize toZ g = x at *
  generalize toZ h = y at *
  have A := rmul_spec (nl x.natAbs) (nl y.natAbs) (nl_lim _) (nl_lim _) (by omega) (by omega)
  rw [vl_nl, vl_nl] at A
  have vx := vl_lt (nl_lim x.natAbs)
  have vy := vl_lt (nl_lim y.natAbs)
  rw [vl_nl] at vx vy
  have hl : (nl (x.natAbs * y.natAbs)).length ≤ (nl x.natAbs).length + (nl y.natAbs).length := nl_len_lt (by
    rw [Nat.pow_add]
    exact Nat.mul_lt_mul'' vx vy)
  have M := rmk_spec (decide (x < 0) != decide (y < 0)) (nl (x.natAbs * y.natAbs)) (nl_lim _) (by omega)
  rw [vl_nl, sg_mul] at M
  change Pur cx _ [encP g.neg g.l, encP h.neg h.l] _ at *
  refine Pur.of (sem_calls' cx (fn := Try.f45) rfl rfl rfl rfl ?_)
  repeat' first | (refine drawE' cx [(_, _)] [(_, _), (_, _)] [11] (List.Perm.refl _) (by decide +kernel) rfl ?_) | refine Ops.tag rfl ?_ | (refine OpsT.go ?_; (conv => arg 7; whnf)) | refine Stp.pure rfl ?_ | ((with_reducible refine PutK.isSet ?_); refine PutK.set (by repeat first | exact HsetIs.hit | apply HsetIs.miss (by omega)) ?_) | refine PutK.mk' rfl ?_ | refine Ops.nil ?_ | (refine DOps.cons rfl rfl ?_; (conv => arg 7; whnf)) | refine DStp.pure rfl ?_ | refine PutD.mk' rfl ?_ | refine DOps.nil rfl ?_ | ((with_reducible refine Look.id ?_); refine Look.auto ?_ (by repeat first | exact HGet.hit | apply HGet.miss (by omega)); try (conv => arg 7; whnf)) | ((with_reducible refine Side.id ?_); first | refine Side.auto ?_) | ((with_reducible refine SemWp.id ?_); first | refine sem_seq ?_ | refine sem_region rfl ?_ | refine sem_ret ?_ | refine sem_draw ?_) | ((with_reducible refine qThen.id ?_); first | refine qThen.go ?_) | refine Stp.look ?_ | refine Stp.call ?_ | refine Stp.eff ?_ | refine DStp.valS ?_ | refine DStp.look ?_ | refine DStp.call ?_ | ((with_reducible refine CallWp.id ?_); first | refine Pur.call (L1) ?_ | refine Pur.call (L2) ?_) | ((with_reducible refine QAsk.id ?_); first | (refine Pur.ask (A) ?_ ?_; focus (intro h; first | exact rfl)) | (refine Pur.ask (M) ?_ ?_; focus (intro h; first | exact rfl))) | (refine newN (fun r hr => ?_); simp only [keys, List.nil_append, List.cons_append, List.map_cons, List.map_nil, List.mem_cons, List.not_mem_nil, not_or, or_false, not_false_eq_true] at hr) | ((with_reducible refine BodyR.id ?_); first | refine BodyR.ret ?_) | ((with_reducible refine ResG.id ?_); first | refine ResG.cell rfl ?_ | refine ResG.nil ?_) | ((with_reducible refine LoadIs.id ?_); first | refine LoadIs.agg (by repeat first | exact HGet.hit) rfl rfl rfl ?_) | ((with_reducible refine Upd.id ?_); first | (refine Upd.lit rfl ?_; (conv => whnf))) | (refine DOps.turn rfl rfl rfl ?_; (conv => arg 7; whnf)) | refine TStp.look ?_ | refine TStp.upd [(_, .cells _ 40)] rfl rfl HsetIs.hit ?_
  exact Fin.mk rfl

/-- Are two numbers one, limb by limb? -/
theorem rSame_spec (g h : GI) (lg : g.l.length ≤ 1099511627776) : Pur cx 21 [encI g, encI h] (bb (g.neg == h.neg && g.l == h.l)) := by
  obtain ⟨n, a⟩ := g
  obtain ⟨m, b⟩ := h
  have la : a.length ≤ 1099511627776 := lg
  have ma : (a.map u32).length = a.length := by simp
  have mb : (b.map u32).length = b.length := by simp
  change Pur cx _ [encP n a, encP m b] (bb (n == m && a == b))
  refine Pur.of (sem_calls' cx (fn := Try.f21) rfl rfl rfl rfl ?_)
  by_cases hnm : n = m
  · subst hnm
    have hb : (n != n) = false := by simp
    by_cases hlen : a.length = b.length
    · repeat' first | (with_reducible first | refine Stp.rwB (hb) ?_) | refine Ops.tag rfl ?_ | ((with_reducible first | refine OpsT.yes' ?_); (conv => arg 7; whnf)) | (refine OpsT.go ?_; (conv => arg 7; whnf)) | (with_reducible first | refine Stp.orF ?_) | ((with_reducible refine Stp.isNe ?_); first | refine Stp.neF ?_) | refine Stp.pure rfl ?_ | refine PutK.mk' rfl ?_ | refine Ops.nil ?_ | ((with_reducible refine Look.id ?_); refine Look.auto ?_ (by repeat first | exact HGet.hit | apply HGet.miss (by omega)); try (conv => arg 7; whnf)) | ((with_reducible refine Side.id ?_); first | refine Side.auto ?_) | ((with_reducible refine Br.id ?_); first | (with_reducible first | refine br_false rfl ?_)) | ((with_reducible refine SemWp.id ?_); first | refine sem_seq ?_ | refine sem_region rfl ?_ | refine sem_cond rfl ?_ | refine sem_block ?_ | refine sem_skip ?_) | ((with_reducible refine qThen.id ?_); first | refine qThen.go ?_) | refine Stp.valS ?_ | refine Stp.look ?_ | refine Stp.eff ?_ | (refine newN (fun r hr => ?_); simp only [keys, List.nil_append, List.cons_append, List.map_cons, List.map_nil, List.mem_cons, List.not_mem_nil, not_or, or_false, not_false_eq_true] at hr)
      rename_i r2 h2
      refine sem_loop cx (ι := Nat) (fun k => k ≤ a.length ∧ ∀ j (hj : j < k) (ha : j < a.length), a[j] = b[j]'(by omega)) (fun k => [(2, .sure, .ptr r2 0), (3, .sure, .ptr r 0), (5, .sure, ii k)]) (fun _ => [(r, .cells [bb n, LL b] 40), (r2, .cells [bb n, LL a] 40)]) (fun k => a.length - k) 0 ⟨Nat.zero_le _, fun j h => by omega⟩ (by repeat' first | exact Sub.nil _ | refine Sub.auto ?_) (Subp.refl _) ?_
      rintro k ⟨k1, k2⟩
      by_cases hk : k < a.length
      · have g1 : (a.map u32).getD (k : Int).toNat default = .v (.int .u32 (a[k] : Int)) := getD_u32 (n := k) rfl hk
        have g2 : (b.map u32).getD (k : Int).toNat default = .v (.int .u32 (b[k]'(by omega) : Int)) := getD_u32 (n := k) rfl (by omega)
        have hne : a[k] ≠ b[k]'(by omega) → (a == b) = false := fun h => by
          rw [beq_eq_false_iff_ne]
          intro e; subst e; exact h rfl
        generalize hx : a[k] = x at *
        generalize hy : b[k]'(by omega) = y at *
        repeat' first | refine Ops.tag rfl ?_ | (refine OpsT.go ?_; (conv => arg 7; whnf)) | ((with_reducible refine Stp.isSum ?_); refine Stp.sum ?_) | ((with_reducible refine Stp.isDec ?_); first | refine Stp.decT ?_) | refine Stp.pure rfl ?_ | refine Ops.nil ?_ | (refine DOps.cons rfl rfl ?_; (conv => arg 7; whnf)) | refine DStp.pure rfl ?_ | refine DOps.nil rfl ?_ | ((with_reducible refine Look.id ?_); refine Look.auto ?_ (by repeat first | exact HGet.hit | apply HGet.miss (by omega)); try (conv => arg 7; whnf)) | ((with_reducible refine Side.id ?_); first | refine Side.auto ?_) | ((with_reducible refine Br.id ?_); first | (with_reducible first | refine br_true rfl ?_) | refine br_bne (fun _ => ?_) (fun _ => ?_)) | ((with_reducible refine SemWp.id ?_); first | refine sem_seq ?_ | refine sem_region rfl ?_ | refine sem_cond rfl ?_ | refine sem_block ?_ | refine sem_ret ?_ | refine sem_skip ?_ | refine sem_draw ?_) | ((with_reducible refine qThen.id ?_); first | refine qThen.go ?_ | refine qThen.ret ?_) | ((with_reducible refine hinBlock.id ?_); first | refine hinBlock.go ?_ | refine hinBlock.ret ?_) | ((with_reducible refine hround.id ?_); first | refine hround.go ?_ | refine hround.ret ?_) | refine Stp.valS ?_ | refine Stp.look ?_ | refine DStp.valS ?_ | refine DStp.look ?_ | ((with_reducible refine DrawReg.id ?_); refine drawQ' cx (by decide +kernel) rfl ?_) | ((with_reducible refine BodyR.id ?_); first | refine BodyR.ret ?_) | ((with_reducible refine ResG.id ?_); first | refine ResG.tmp rfl ?_ | refine ResG.nil ?_) | rw [g1] | rw [g2]
        · rename_i h
          exact Fin.mk (by rw [hne (by omega), Bool.and_false]; rfl)
        · rename_i h
          refine Fin.mk ⟨k + 1, ⟨by omega, fun j h1 h2 => ?_⟩, by omega, by repeat' first | exact Sub.nil _ | refine Sub.auto ?_, Subp.refl _⟩
          rcases Nat.lt_or_ge j k with h3 | h3
          · exact k2 j h3 h2
          · have : j = k := by omega
            subst this; omega
      · have : a = b := List.ext_getElem hlen fun i h1 h2 => k2 i (by omega) h1
        subst this
        repeat' first | refine Ops.tag rfl ?_ | (refine OpsT.go ?_; (conv => arg 7; whnf)) | ((with_reducible refine Stp.isDec ?_); first | refine Stp.decF ?_) | refine Stp.pure rfl ?_ | refine Ops.nil ?_ | ((with_reducible refine Look.id ?_); refine Look.auto ?_ (by repeat first | exact HGet.hit | apply HGet.miss (by omega)); try (conv => arg 7; whnf)) | ((with_reducible refine Side.id ?_); first | refine Side.auto ?_) | ((with_reducible refine Br.id ?_); first | (with_reducible first | refine br_false rfl ?_)) | ((with_reducible refine SemWp.id ?_); first | refine sem_seq ?_ | refine sem_region rfl ?_ | refine sem_cond rfl ?_ | refine sem_exit ?_ | refine sem_ret ?_) | ((with_reducible refine qThen.id ?_); first | refine qThen.go ?_) | refine Stp.valS ?_ | refine Stp.look ?_ | ((with_reducible refine BodyR.id ?_); first | refine BodyR.ret ?_) | ((with_reducible refine ResG.id ?_); first | refine ResG.tmp rfl ?_ | refine ResG.nil ?_)
        exact Fin.mk (by simp; rfl)
    · have hf : (a == b) = false := by
        rw [beq_eq_false_iff_ne]
        intro e; subst e; exact hlen rfl
      repeat' first | (with_reducible first | refine Stp.rwB (hb) ?_) | refine Ops.tag rfl ?_ | ((with_reducible first | refine OpsT.yes' ?_); (conv => arg 7; whnf)) | (refine OpsT.go ?_; (conv => arg 7; whnf)) | (with_reducible first | refine Stp.orF ?_) | ((with_reducible refine Stp.isNe ?_); first | refine Stp.neT ?_) | refine Stp.pure rfl ?_ | refine PutK.mk' rfl ?_ | refine Ops.nil ?_ | ((with_reducible refine Look.id ?_); refine Look.auto ?_ (by repeat first | exact HGet.hit | apply HGet.miss (by omega)); try (conv => arg 7; whnf)) | ((with_reducible refine Side.id ?_); first | refine Side.auto ?_) | ((with_reducible refine Br.id ?_); first | (with_reducible first | refine br_true rfl ?_)) | ((with_reducible refine SemWp.id ?_); first | refine sem_seq ?_ | refine sem_region rfl ?_ | refine sem_cond rfl ?_ | refine sem_ret ?_) | ((with_reducible refine qThen.id ?_); first | refine qThen.go ?_ | refine qThen.ret ?_) | refine Stp.valS ?_ | refine Stp.look ?_ | refine Stp.eff ?_ | (refine newN (fun r hr => ?_); simp only [keys, List.nil_append, List.cons_append, List.map_cons, List.map_nil, List.mem_cons, List.not_mem_nil, not_or, or_false, not_false_eq_true] at hr) | ((with_reducible refine BodyR.id ?_); first | refine BodyR.ret ?_) | ((with_reducible refine ResG.id ?_); first | refine ResG.tmp rfl ?_ | refine ResG.nil ?_)
      exact Fin.mk (by rw [hf, Bool.and_false]; rfl)
  · have hb : (n != m) = true := by simpa using hnm
    have hf : (n == m) = false := by simpa using hnm
    repeat' first | (with_reducible first | refine Stp.rwB (hb) ?_) | refine Ops.tag rfl ?_ | (with_reducible first | refine OpsT.no' ?_) | (refine OpsT.go ?_; (conv => arg 7; whnf)) | (with_reducible first | refine Stp.orT ?_) | refine Stp.pure rfl ?_ | refine PutK.mk' rfl ?_ | refine Ops.nil ?_ | ((with_reducible refine Look.id ?_); refine Look.auto ?_ (by repeat first | exact HGet.hit | apply HGet.miss (by omega)); try (conv => arg 7; whnf)) | ((with_reducible refine Side.id ?_); first | refine Side.auto ?_) | ((with_reducible refine Br.id ?_); first | (with_reducible first | refine br_true rfl ?_)) | ((with_reducible refine SemWp.id ?_); first | refine sem_seq ?_ | refine sem_region rfl ?_ | refine sem_cond rfl ?_ | refine sem_ret ?_) | ((with_reducible refine qThen.id ?_); first | refine qThen.go ?_ | refine qThen.ret ?_) | refine Stp.valS ?_ | refine Stp.look ?_ | refine Stp.eff ?_ | (refine newN (fun r hr => ?_); simp only [keys, List.nil_append, List.cons_append, List.map_cons, List.map_nil, List.mem_cons, List.not_mem_nil, not_or, or_false, not_false_eq_true] at hr) | ((with_reducible refine BodyR.id ?_); first | refine BodyR.ret ?_) | ((with_reducible refine ResG.id ?_); first | refine ResG.tmp rfl ?_ | refine ResG.nil ?_)
    exact Fin.mk (by rw [hf, Bool.false_and]; rfl)
end Go.Proofs.Hk

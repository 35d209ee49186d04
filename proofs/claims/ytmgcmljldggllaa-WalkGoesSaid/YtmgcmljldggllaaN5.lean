import Derived.Test.YtmgcmljldggllaaN4
set_option linter.unusedSimpArgs false
set_option linter.unusedVariables false
namespace Go.Proofs.Hk
open Go Go.Proofs

def cmpZ (x y : Int) : Int := if x < y then -1 else if x > y then 1 else 0
theorem orderI_spec (x y : Int) : Pur cx 74 [ii x, ii y] (ii (cmpZ x y)) := by
  refine Pur.of (sem_calls' cx (fn := Try.f74) rfl rfl rfl rfl ?_)
  repeat' first | refine Ops.tag rfl ?_ | (refine OpsT.go ?_; (conv => arg 7; whnf)) | refine Stp.pure rfl ?_ | refine Ops.nil ?_ | ((with_reducible refine Br.id ?_); first | refine br_dec (fun _ => ?_) (fun _ => ?_)) | ((with_reducible refine SemWp.id ?_); first | refine sem_seq ?_ | refine sem_region rfl ?_ | refine sem_cond rfl ?_ | refine sem_block ?_ | refine sem_ret ?_ | refine sem_skip ?_) | ((with_reducible refine qThen.id ?_); first | refine qThen.go ?_ | refine qThen.ret ?_) | ((with_reducible refine hinBlock.id ?_); first | refine hinBlock.go ?_ | refine hinBlock.ret ?_) | ((with_reducible refine BodyR.id ?_); first | refine BodyR.ret ?_) | ((with_reducible refine ResG.id ?_); first | refine ResG.tmp rfl ?_ | refine ResG.nil ?_)
  all_goals exact Fin.mk (by simp [cmpZ, *]; rfl)
theorem orderU_spec (x y : Int) : Pur cx 75 [.v (.int .u32 x), .v (.int .u32 y)] (ii (cmpZ x y)) := by
  refine Pur.of (sem_calls' cx (fn := Try.f75) rfl rfl rfl rfl ?_)
  repeat' first | refine Ops.tag rfl ?_ | (refine OpsT.go ?_; (conv => arg 7; whnf)) | refine Stp.pure rfl ?_ | refine Ops.nil ?_ | ((with_reducible refine Br.id ?_); first | refine br_dec (fun _ => ?_) (fun _ => ?_)) | ((with_reducible refine SemWp.id ?_); first | refine sem_seq ?_ | refine sem_region rfl ?_ | refine sem_cond rfl ?_ | refine sem_block ?_ | refine sem_ret ?_ | refine sem_skip ?_) | ((with_reducible refine qThen.id ?_); first | refine qThen.go ?_ | refine qThen.ret ?_) | ((with_reducible refine hinBlock.id ?_); first | refine hinBlock.go ?_ | refine hinBlock.ret ?_) | ((with_reducible refine BodyR.id ?_); first | refine BodyR.ret ?_) | ((with_reducible refine ResG.id ?_); first | refine ResG.tmp rfl ?_ | refine ResG.nil ?_)
  all_goals exact Fin.mk (by simp [cmpZ, *]; rfl)
theorem cmpZ_lt {x y : Int} (h : x < y) : cmpZ x y = -1 := by simp [cmpZ, h]
theorem cmpZ_gt {x y : Int} (h : x > y) : cmpZ x y = 1 := by unfold cmpZ; rw [if_neg (by omega), if_pos h]
theorem cmpZ_eq {x y : Int} (h : x = y) : cmpZ x y = 0 := by subst h; simp [cmpZ]
theorem cmpN_spec (a b : List Nat) (ha : Lim a) (hb : Lim b) (ta : Top0 a) (tb : Top0 b) (na : a.length ≤ 1099511627776) (nb : b.length ≤ 1099511627776) :
    Pur cx 58 [LL a, LL b] (ii (cmpZ (vl a) (vl b))) := by
  have ma : (a.map u32).length = a.length := by simp
  have mb : (b.map u32).length = b.length := by simp
  refine Pur.of (sem_calls' cx (fn := Try.f58) rfl rfl rfl rfl ?_)
  by_cases hlen : a.length = b.length
  · repeat' first | refine Ops.tag rfl ?_ | (refine OpsT.go ?_; (conv => arg 7; whnf)) | ((with_reducible refine Stp.isSum ?_); refine Stp.sum ?_) | ((with_reducible refine Stp.isNe ?_); first | refine Stp.neF ?_) | refine Stp.pure rfl ?_ | refine Ops.nil ?_ | ((with_reducible refine Br.id ?_); first | (with_reducible first | refine br_false rfl ?_)) | ((with_reducible refine SemWp.id ?_); first | refine sem_seq ?_ | refine sem_region rfl ?_ | refine sem_cond rfl ?_ | refine sem_block ?_ | refine sem_skip ?_) | ((with_reducible refine qThen.id ?_); first | refine qThen.go ?_)
    refine sem_loop cx (ι := Nat) (fun k => k ≤ a.length ∧ ∀ j (hj : j < a.length), k ≤ j → a[j] = b[j]'(by omega)) (fun k => [(0, .sure, LL a), (1, .sure, LL b), (5, .sure, ii ((k : Int) - 1))]) (fun _ => []) (fun k => k) a.length ⟨Nat.le_refl _, fun j h1 h2 => by omega⟩ (Sub.cons rfl rfl (Sub.cons rfl rfl (Sub.cons rfl (by rw [ma]; rfl) (Sub.nil _)))) (Subp.nil _) ?_
    rintro k ⟨k1, k2⟩
    by_cases h0 : k = 0
    · subst h0
      repeat' first | refine Ops.tag rfl ?_ | (refine OpsT.go ?_; (conv => arg 7; whnf)) | ((with_reducible refine Stp.isDec ?_); first | refine Stp.decF ?_) | refine Stp.pure rfl ?_ | refine Ops.nil ?_ | ((with_reducible refine Br.id ?_); first | (with_reducible first | refine br_false rfl ?_)) | ((with_reducible refine SemWp.id ?_); first | refine sem_seq ?_ | refine sem_region rfl ?_ | refine sem_cond rfl ?_ | refine sem_exit ?_ | refine sem_ret ?_) | ((with_reducible refine qThen.id ?_); first | refine qThen.go ?_) | ((with_reducible refine BodyR.id ?_); first | refine BodyR.ret ?_) | ((with_reducible refine ResG.id ?_); first | refine ResG.tmp rfl ?_ | refine ResG.nil ?_)
      have : a = b := List.ext_getElem hlen fun i h1 h2 => k2 i h1 (Nat.zero_le _)
      rw [this, cmpZ_eq rfl]
      exact Fin.mk rfl
    · have hk : k - 1 < a.length := by omega
      have g1 : (a.map u32).getD ((k : Int) - 1).toNat default = .v (.int .u32 (a[k - 1] : Int)) := getD_u32 (n := k - 1) (by omega) hk
      have g2 : (b.map u32).getD ((k : Int) - 1).toNat default = .v (.int .u32 (b[k - 1]'(by omega) : Int)) := getD_u32 (n := k - 1) (by omega) (by omega)
      have hz : a[k - 1] ≠ b[k - 1]'(by omega) → cmpZ (vl a) (vl b) = cmpZ a[k - 1] (b[k - 1]'(by omega)) := fun hne => by
        rcases Nat.lt_or_gt_of_ne hne with h | h
        · exact (cmpZ_lt (Int.ofNat_lt.2 (vl_cmp_at ha hb hlen hk (fun j hj hkj => k2 j hj (by omega)) h))).trans (cmpZ_lt (by omega)).symm
        · exact (cmpZ_gt (Int.ofNat_lt.2 (vl_cmp_at hb ha hlen.symm (k := k - 1) (by omega) (fun j hj hkj => (k2 j (by omega) (by omega)).symm) h))).trans (cmpZ_gt (by omega)).symm
      generalize hx : a[k - 1] = x at *
      generalize hy : b[k - 1]'(by omega) = y at *
      repeat' first | refine Ops.tag rfl ?_ | (refine OpsT.go ?_; (conv => arg 7; whnf)) | ((with_reducible refine Stp.isSum ?_); refine Stp.sum ?_) | ((with_reducible refine Stp.isDec ?_); first | refine Stp.decT ?_) | refine Stp.pure rfl ?_ | refine Ops.nil ?_ | (refine DOps.cons rfl rfl ?_; (conv => arg 7; whnf)) | refine DStp.pure rfl ?_ | refine PutD.mk' rfl ?_ | refine DOps.nil rfl ?_ | ((with_reducible refine Side.id ?_); first | refine Side.auto ?_) | ((with_reducible refine Br.id ?_); first | (with_reducible first | refine br_true rfl ?_) | refine br_bne (fun _ => ?_) (fun _ => ?_)) | ((with_reducible refine SemWp.id ?_); first | refine sem_seq ?_ | refine sem_region rfl ?_ | refine sem_cond rfl ?_ | refine sem_block ?_ | refine sem_ret ?_ | refine sem_skip ?_ | refine sem_draw ?_) | ((with_reducible refine qThen.id ?_); first | refine qThen.go ?_ | refine qThen.ret ?_) | ((with_reducible refine hinBlock.id ?_); first | refine hinBlock.go ?_ | refine hinBlock.ret ?_) | ((with_reducible refine hround.id ?_); first | refine hround.go ?_ | refine hround.ret ?_) | refine DStp.valS ?_ | refine DStp.call ?_ | ((with_reducible refine QAsk.id ?_); first | (refine Pur.ask (orderU_spec _ _) ?_ ?_; focus (intro h; first | exact rfl))) | ((with_reducible refine DrawReg.id ?_); refine drawQ' cx (by decide +kernel) rfl ?_) | ((with_reducible refine BodyR.id ?_); first | refine BodyR.ret ?_) | ((with_reducible refine ResG.id ?_); first | refine ResG.tmp rfl ?_ | refine ResG.nil ?_) | rw [g1] | rw [g2]
      · rename_i h
        rw [hz (by omega)]
        exact Fin.mk rfl
      · rename_i h
        have h : x = y := by omega
        refine Fin.mk ⟨k - 1, ⟨by omega, fun j h1 h2 => ?_⟩, by omega, Sub.cons rfl rfl (Sub.cons rfl rfl (Sub.cons rfl ?_ (Sub.nil _))), Subp.nil _⟩
        · rcases Nat.eq_or_lt_of_le h2 with rfl | h2
          · omega
          · exact k2 j h1 (by omega)
        · rw [show ((k - 1 : Nat) : Int) = (k : Int) - 1 from by omega]; rfl
  · repeat' first | refine Ops.tag rfl ?_ | (refine OpsT.go ?_; (conv => arg 7; whnf)) | ((with_reducible refine Stp.isNe ?_); first | refine Stp.neT ?_) | refine Stp.pure rfl ?_ | refine PutK.mk' rfl ?_ | refine Ops.nil ?_ | ((with_reducible refine Side.id ?_); first | refine Side.auto ?_) | ((with_reducible refine Br.id ?_); first | (with_reducible first | refine br_true rfl ?_)) | ((with_reducible refine SemWp.id ?_); first | refine sem_seq ?_ | refine sem_region rfl ?_ | refine sem_cond rfl ?_ | refine sem_ret ?_) | ((with_reducible refine qThen.id ?_); first | refine qThen.go ?_ | refine qThen.ret ?_) | refine Stp.call ?_ | ((with_reducible refine CallWp.id ?_); first | refine Pur.call (orderI_spec _ _) ?_) | ((with_reducible refine BodyR.id ?_); first | refine BodyR.ret ?_) | ((with_reducible refine ResG.id ?_); first | refine ResG.tmp rfl ?_ | refine ResG.nil ?_)
    refine Fin.mk ?_
    show HEnd.ret (ii (cmpZ ((a.map u32).length : Int) ((b.map u32).length : Int))) = _
    rw [ma, mb]
    rcases Nat.lt_or_gt_of_ne hlen with h | h
    · rw [cmpZ_lt (x := (a.length : Int)) (by omega), cmpZ_lt (Int.ofNat_lt.2 (vl_lt_of_len ha tb h))]
    · rw [cmpZ_gt (x := (a.length : Int)) (by omega), cmpZ_gt (Int.ofNat_lt.2 (vl_lt_of_len hb ta h))]
theorem made_dig (s : Bool) (n V : Nat) (hV : V < B ^ n) (hn : n ≤ 1099511627776) : Pur cx 56 [bb s, LL (dig n V)] (encI (ofZ (sg s V))) := by
  have := made_spec s (dig n V) (dig_lim n V) (by rw [dig_length]; exact hn)
  rwa [vl_dig, Nat.mod_eq_of_lt hV] at this
theorem abs_len {g : GI} (hg : g.Ok) : (toZ g).natAbs < B ^ g.l.length := by
  have := vl_lt hg.lim
  have h0 := Bp g.l.length
  unfold toZ sg
  split
  · split <;> omega
  · simpa using h0
theorem nl_len {g : GI} (hg : g.Ok) : (nl (toZ g).natAbs).length ≤ g.l.length := nl_len_lt (abs_len hg)
set_option maxHeartbeats 1000000 in
theorem Add_spec (g h : GI) (hg : g.Ok) (hh : h.Ok) (lg : g.l.length ≤ 1000000) (lh : h.l.length ≤ 1000000) : Pur cx 42 [encI g, encI h] (encI (ofZ (toZ g + toZ h))) := by
  have n1 := nl_len hg
  have n2 := nl_len hh
  have L1 := limbs_spec g hg
  have L2 := limbs_spec h hh
  have N1 := neg_spec g hg
  have N2 := neg_spec h hh
  generalize toZ g = x at *
  generalize toZ h = y at *
  have P := plus_spec (nl x.natAbs) (nl y.natAbs) (nl_lim _) (nl_lim _) (by omega) (by omega)
  have C := cmpN_spec (nl x.natAbs) (nl y.natAbs) (nl_lim _) (nl_lim _) (nl_top _) (nl_top _) (by omega) (by omega)
  rw [vl_nl, vl_nl] at P C
  have vx := vl_lt (nl_lim x.natAbs)
  have vy := vl_lt (nl_lim y.natAbs)
  rw [vl_nl] at vx vy
  change Pur cx _ [encP g.neg g.l, encP h.neg h.l] _
  by_cases hs : (decide (x < 0)) = (decide (y < 0))
  · have hb : (decide (x < 0) == decide (y < 0)) = true := by simp [hs]
    have M := made_dig (decide (x < 0)) (max (nl x.natAbs).length (nl y.natAbs).length + 1) (x.natAbs + y.natAbs) (by
      have e1 : B ^ (nl x.natAbs).length ≤ B ^ (max (nl x.natAbs).length (nl y.natAbs).length) := Nat.pow_le_pow_right B_pos (by omega)
      have e2 : B ^ (nl y.natAbs).length ≤ B ^ (max (nl x.natAbs).length (nl y.natAbs).length) := Nat.pow_le_pow_right B_pos (by omega)
      rw [Nat.pow_succ]
      have e3 : B ^ (max (nl x.natAbs).length (nl y.natAbs).length) * 2 ≤ B ^ (max (nl x.natAbs).length (nl y.natAbs).length) * B := Nat.mul_le_mul_left _ (by decide)
      omega) (by omega)
    have e : sg (decide (x < 0)) (x.natAbs + y.natAbs) = x + y := by
      rw [decide_eq_decide] at hs
      unfold sg
      by_cases h : x < 0
      · rw [if_pos (decide_eq_true h)]; omega
      · rw [if_neg (by simpa using h)]; omega
    rw [e] at M
    refine Pur.of (sem_calls' cx (fn := Try.f42) rfl rfl rfl rfl ?_)
    repeat' first | refine Ops.tag rfl ?_ | (refine OpsT.go ?_; (conv => arg 7; whnf)) | refine Stp.pure rfl ?_ | ((with_reducible refine PutK.isSet ?_); refine PutK.set (by repeat first | exact HsetIs.hit) ?_) | refine PutK.mk' rfl ?_ | refine Ops.nil ?_ | (refine DOps.cons rfl rfl ?_; (conv => arg 7; whnf)) | refine DStp.pure rfl ?_ | refine PutD.mk' rfl ?_ | refine DOps.nil rfl ?_ | ((with_reducible refine Look.id ?_); refine Look.auto ?_ (by repeat first | exact HGet.hit | apply HGet.miss (by omega)); try (conv => arg 7; whnf)) | ((with_reducible refine Side.id ?_); first | refine Side.auto ?_) | ((with_reducible refine Br.id ?_); first | refine br_true (by with_reducible assumption) ?_) | ((with_reducible refine SemWp.id ?_); first | refine sem_seq ?_ | refine sem_region rfl ?_ | refine sem_cond rfl ?_ | refine sem_block ?_ | refine sem_ret ?_ | refine sem_draw ?_) | ((with_reducible refine qThen.id ?_); first | refine qThen.go ?_ | refine qThen.ret ?_) | ((with_reducible refine hinBlock.id ?_); first | refine hinBlock.ret ?_) | refine Stp.look ?_ | refine Stp.call ?_ | refine Stp.eff ?_ | refine DStp.look ?_ | refine DStp.call ?_ | ((with_reducible refine CallWp.id ?_); first | refine Pur.call (N1) ?_ | refine Pur.call (P) ?_ | refine Pur.call (M) ?_) | ((with_reducible refine QAsk.id ?_); first | (refine Pur.ask (L1) ?_ ?_; focus (intro h; first | exact rfl)) | (refine Pur.ask (L2) ?_ ?_; focus (intro h; first | exact rfl)) | (refine Pur.ask (N1) ?_ ?_; focus (intro h; first | exact rfl)) | (refine Pur.ask (N2) ?_ ?_; focus (intro h; first | exact rfl))) | ((with_reducible refine DrawReg.id ?_); refine drawQ' cx (by decide +kernel) rfl ?_) | (refine newN (fun r hr => ?_); simp only [keys, List.nil_append, List.cons_append, List.map_cons, List.map_nil, List.mem_cons, List.not_mem_nil, not_or, or_false, not_false_eq_true] at hr) | ((with_reducible refine BodyR.id ?_); first | refine BodyR.ret ?_) | ((with_reducible refine ResG.id ?_); first | refine ResG.cell rfl ?_ | refine ResG.nil ?_) | ((with_reducible refine LoadIs.id ?_); first | refine LoadIs.agg (by repeat first | exact HGet.hit) rfl rfl rfl ?_) | ((with_reducible refine Upd.id ?_); first | (refine Upd.lit rfl ?_; (conv => whnf)))
    exact Fin.mk rfl
  · have hb : (decide (x < 0) == decide (y < 0)) = false := by simp [hs]
    by_cases hxy : y.natAbs ≤ x.natAbs
    · have Mi := minus_spec (nl x.natAbs) (nl y.natAbs) (nl_lim _) (nl_lim _) (by
        rcases Nat.eq_or_lt_of_le hxy with h | h
        · rw [h]; exact Nat.le_refl _
        · exact nl_len_lt (by omega)) (by omega) (by rw [vl_nl, vl_nl]; exact hxy)
      rw [vl_nl, vl_nl] at Mi
      have M := made_dig (decide (x < 0)) (nl x.natAbs).length (x.natAbs - y.natAbs) (by omega) (by omega)
      have e : sg (decide (x < 0)) (x.natAbs - y.natAbs) = x + y := by
        rw [decide_eq_decide] at hs
        unfold sg
        by_cases h : x < 0
        · rw [if_pos (decide_eq_true h)]; omega
        · rw [if_neg (by simpa using h)]; omega
      rw [e] at M
      have hc : 0 ≤ cmpZ (x.natAbs : Int) (y.natAbs : Int) := by
        rcases Nat.eq_or_lt_of_le hxy with h | h
        · rw [cmpZ_eq (by omega)]; omega
        · rw [cmpZ_gt (by omega)]; omega
      refine Pur.of (sem_calls' cx (fn := Try.f42) rfl rfl rfl rfl ?_)
      repeat' first | refine Ops.tag rfl ?_ | (refine OpsT.go ?_; (conv => arg 7; whnf)) | ((with_reducible refine Stp.isDec ?_); first | refine Stp.decT ?_) | refine Stp.pure rfl ?_ | ((with_reducible refine PutK.isSet ?_); refine PutK.set (by repeat first | exact HsetIs.hit) ?_) | refine PutK.mk' rfl ?_ | refine Ops.nil ?_ | (refine DOps.cons rfl rfl ?_; (conv => arg 7; whnf)) | refine DStp.pure rfl ?_ | refine PutD.mk' rfl ?_ | refine DOps.nil rfl ?_ | ((with_reducible refine Look.id ?_); refine Look.auto ?_ (by repeat first | exact HGet.hit | apply HGet.miss (by omega)); try (conv => arg 7; whnf)) | ((with_reducible refine Side.id ?_); first | refine Side.auto ?_) | ((with_reducible refine Br.id ?_); first | (with_reducible first | refine br_true rfl ?_) | refine br_false (by with_reducible assumption) ?_) | ((with_reducible refine SemWp.id ?_); first | refine sem_seq ?_ | refine sem_region rfl ?_ | refine sem_cond rfl ?_ | refine sem_block ?_ | refine sem_ret ?_ | refine sem_draw ?_) | ((with_reducible refine qThen.id ?_); first | refine qThen.go ?_ | refine qThen.ret ?_) | ((with_reducible refine hinBlock.id ?_); first | refine hinBlock.ret ?_) | refine Stp.look ?_ | refine Stp.call ?_ | refine Stp.eff ?_ | refine DStp.look ?_ | refine DStp.call ?_ | ((with_reducible refine CallWp.id ?_); first | refine Pur.call (N1) ?_ | refine Pur.call (C) ?_ | refine Pur.call (Mi) ?_ | refine Pur.call (M) ?_) | ((with_reducible refine QAsk.id ?_); first | (refine Pur.ask (L1) ?_ ?_; focus (intro h; first | exact rfl)) | (refine Pur.ask (L2) ?_ ?_; focus (intro h; first | exact rfl)) | (refine Pur.ask (N1) ?_ ?_; focus (intro h; first | exact rfl)) | (refine Pur.ask (N2) ?_ ?_; focus (intro h; first | exact rfl))) | ((with_reducible refine DrawReg.id ?_); refine drawQ' cx (by decide +kernel) rfl ?_) | (refine newN (fun r hr => ?_); simp only [keys, List.nil_append, List.cons_append, List.map_cons, List.map_nil, List.mem_cons, List.not_mem_nil, not_or, or_false, not_false_eq_true] at hr) | ((with_reducible refine BodyR.id ?_); first | refine BodyR.ret ?_) | ((with_reducible refine ResG.id ?_); first | refine ResG.cell rfl ?_ | refine ResG.nil ?_) | ((with_reducible refine LoadIs.id ?_); first | refine LoadIs.agg (by repeat first | exact HGet.hit) rfl rfl rfl ?_) | ((with_reducible refine Upd.id ?_); first | (refine Upd.lit rfl ?_; (conv => whnf)))
      exact Fin.mk rfl
    · have Mi := minus_spec (nl y.natAbs) (nl x.natAbs) (nl_lim _) (nl_lim _) (nl_len_lt (by omega)) (by omega) (by rw [vl_nl, vl_nl]; omega)
      rw [vl_nl, vl_nl] at Mi
      have M := made_dig (decide (y < 0)) (nl y.natAbs).length (y.natAbs - x.natAbs) (by omega) (by omega)
      have e : sg (decide (y < 0)) (y.natAbs - x.natAbs) = x + y := by
        rw [decide_eq_decide] at hs
        unfold sg
        by_cases h : y < 0
        · rw [if_pos (decide_eq_true h)]; omega
        · rw [if_neg (by simpa using h)]; omega
      rw [e] at M
      have hc : ¬ 0 ≤ cmpZ (x.natAbs : Int) (y.natAbs : Int) := by rw [cmpZ_lt (by omega)]; omega
      refine Pur.of (sem_calls' cx (fn := Try.f42) rfl rfl rfl rfl ?_)
      repeat' first | refine Ops.tag rfl ?_ | (refine OpsT.go ?_; (conv => arg 7; whnf)) | ((with_reducible refine Stp.isDec ?_); first | refine Stp.decF ?_) | refine Stp.pure rfl ?_ | ((with_reducible refine PutK.isSet ?_); refine PutK.set (by repeat first | exact HsetIs.hit) ?_) | refine PutK.mk' rfl ?_ | refine Ops.nil ?_ | (refine DOps.cons rfl rfl ?_; (conv => arg 7; whnf)) | refine DStp.pure rfl ?_ | refine PutD.mk' rfl ?_ | refine DOps.nil rfl ?_ | ((with_reducible refine Look.id ?_); refine Look.auto ?_ (by repeat first | exact HGet.hit | apply HGet.miss (by omega)); try (conv => arg 7; whnf)) | ((with_reducible refine Side.id ?_); first | refine Side.auto ?_) | ((with_reducible refine Br.id ?_); first | (with_reducible first | refine br_false rfl ?_) | refine br_false (by with_reducible assumption) ?_) | ((with_reducible refine SemWp.id ?_); first | refine sem_seq ?_ | refine sem_region rfl ?_ | refine sem_cond rfl ?_ | refine sem_block ?_ | refine sem_ret ?_ | refine sem_skip ?_ | refine sem_draw ?_) | ((with_reducible refine qThen.id ?_); first | refine qThen.go ?_) | ((with_reducible refine hinBlock.id ?_); first | refine hinBlock.go ?_) | refine Stp.look ?_ | refine Stp.call ?_ | refine Stp.eff ?_ | refine DStp.look ?_ | refine DStp.call ?_ | ((with_reducible refine CallWp.id ?_); first | refine Pur.call (N2) ?_ | refine Pur.call (C) ?_ | refine Pur.call (Mi) ?_ | refine Pur.call (M) ?_) | ((with_reducible refine QAsk.id ?_); first | (refine Pur.ask (L1) ?_ ?_; focus (intro h; first | exact rfl)) | (refine Pur.ask (L2) ?_ ?_; focus (intro h; first | exact rfl)) | (refine Pur.ask (N1) ?_ ?_; focus (intro h; first | exact rfl)) | (refine Pur.ask (N2) ?_ ?_; focus (intro h; first | exact rfl))) | ((with_reducible refine DrawReg.id ?_); refine drawQ' cx (by decide +kernel) rfl ?_) | (refine newN (fun r hr => ?_); simp only [keys, List.nil_append, List.cons_append, List.map_cons, List.map_nil, List.mem_cons, List.not_mem_nil, not_or, or_false, not_false_eq_true] at hr) | ((with_reducible refine BodyR.id ?_); first | refine BodyR.ret ?_) | ((with_reducible refine ResG.id ?_); first | refine ResG.cell rfl ?_ | refine ResG.nil ?_) | ((with_reducible refine LoadIs.id ?_); first | refine LoadIs.agg (by repeat first | exact HGet.hit) rfl rfl rfl ?_) | ((with_reducible refine Upd.id ?_); first | (refine Upd.lit rfl ?_; (conv => whnf)))
      exact Fin.mk rfl
end Go.Proofs.Hk

import Derived.Test.YtmgcmljldggllaaN3
set_option linter.unusedSimpArgs false
set_option linter.unusedVariables false
namespace Go.Proofs.Hk
open Go Go.Proofs

def cmpZ (x y : Int) : Int := if x < y then -1 else if x > y then 1 else 0
theorem orderI_spec (x y : Int) : Pur cx 74 [ii x, ii y] (ii (cmpZ x y)) := by
  refine Pur.of (sem_calls' cx (fn := Try.f74) rfl rfl rfl rfl ?_)
  repeat' first | refine Ops.tag rfl ?_ | (refine OpsT.go ?_; (conv => arg 7; whnf)) | refine Stp.pure rfl ?_ | refine Ops.nil ?_ | ((with_reducible refine Br.id ?_); first | refine br_dec (fun _ => ?_) (fun _ => ?_)) | ((with_reducible refine SemWp.id ?_); first | refine sem_seq ?_ | refine sem_region rfl ?_ | refine sem_cond rfl ?_ | refine sem_block ?_ | refine sem_ret ?_ | refine sem_skip ?_) | ((with_reducible refine qThen.id ?_); first | refine qThen.go ?_ | refine qThen.ret ?_) | ((with_reducible refine hinBlock.id ?_); first | refine hinBlock.go ?_ | refine hinBlock.ret ?_) | ((with_reducible refine BodyR.id ?_); first | refine BodyR.ret ?_) | ((with_reducible refine ResG.id ?_); first | refine ResG.tmp rfl ?_ | refine ResG.nil ?_)
  all_goals exact Fin.mk (by simp [cmpZ, *]; rfl)
theorem orderU_spec (x y : Int) : Pur cx 75 [.v (.int .u32 x), .v (.int .u32 y)] (ii (cmpZ x y)) := by
  refine Pur.of (sem_calls' cx (fn := Try.f75) rfl rfl rfl rfl ?_)
  repeat' first | refine Ops.tag rfl ?_ | (refine OpsT.go ?_; (conv => arg 7; whnf)) | refine Stp.pure rfl ?_ | refine Ops.nil ?_ | ((with_reducible refine Br.id ?_); first | refine br_dec (fun _ => ?_) (fun _ => ?_)) | ((with_reducible refine SemWp.id ?_); first | refine sem_seq ?_ | refine sem_region rfl ?_ | refine sem_cond rfl ?_ | refine sem_block ?_ | refine sem_ret ?_ | refine sem_skip ?_) | ((with_reducible refine qThen.id ?_); first | refine qThen.go ?_ | refine qThen.ret ?_) | ((with_reducible refine hinBlock.id ?_); first | refine hinBlock.go ?_ | refine hinBlock.ret ?_) | ((with_reducible refine BodyR.id ?_); first | refine BodyR.ret ?_) | ((with_reducible refine ResG.id ?_); first | refine ResG.tmp rfl ?_ | refine ResG.nil ?_)
  all_goals exact Fin.mk (by simp [cmpZ, *]; rfl)
theorem cmpZ_lt {x y : Int} (h : x < y) : cmpZ x y = -1 := by simp [cmpZ, h]
theorem cmpZ_gt {x y : Int} (h : x > y) : cmpZ x y = 1 := by unfold cmpZ; rw [if_neg (by omega), if_pos h]
theorem cmpZ_eq {x y : Int} (h : x = y) : cmpZ x y = 0 := by subst h; simp [cmpZ]
theorem cmpN_spec (a b : List Nat) (ha : Lim a) (hb : Lim b) (ta : Top0 a) (tb : Top0 b) (na : a.length ≤ 1099511627776) (nb : b.length ≤ 1099511627776) :
    Pur cx 58 [LL a, LL b] (ii (cmpZ (vl a) (vl b))) := by
  have ma : (a.map u32).length = a.length := by simp
  have mb : (b.map u32).length = b.length := by simp
  refine Pur.of (sem_calls' cx (fn := Try.f58) rfl rfl rfl rfl ?_)
  by_cases hlen : a.length = b.length
  · repeat' first | refine Ops.tag rfl ?_ | (refine OpsT.go ?_; (conv => arg 7; whnf)) | ((with_reducible refine Stp.isSum ?_); refine Stp.sum ?_) | ((with_reducible refine Stp.isNe ?_); first | refine Stp.neF ?_) | refine Stp.pure rfl ?_ | refine Ops.nil ?_ | ((with_reducible refine Br.id ?_); first | (with_reducible first | refine br_false rfl ?_)) | ((with_reducible refine SemWp.id ?_); first | refine sem_seq ?_ | refine sem_region rfl ?_ | refine sem_cond rfl ?_ | refine sem_block ?_ | refine sem_skip ?_) | ((with_reducible refine qThen.id ?_); first | refine qThen.go ?_)
    refine sem_loop cx (ι := Nat) (fun k => k ≤ a.length ∧ ∀ j (hj : j < a.length), k ≤ j → a[j] = b[j]'(by omega)) (fun k => [(0, .sure, LL a), (1, .sure, LL b), (5, .sure, ii ((k : Int) - 1))]) (fun _ => []) (fun k => k) a.length ⟨Nat.le_refl _, fun j h1 h2 => by omega⟩ (Sub.cons rfl rfl (Sub.cons rfl rfl (Sub.cons rfl (by rw [ma]; rfl) (Sub.nil _)))) (Subp.nil _) ?_
    rintro k ⟨k1, k2⟩
    by_cases h0 : k = 0
    · subst h0
      repeat' first | refine Ops.tag rfl ?_ | (refine OpsT.go ?_; (conv => arg 7; whnf)) | ((with_reducible refine Stp.isDec ?_); first | refine Stp.decF ?_) | refine Stp.pure rfl ?_ | refine Ops.nil ?_ | ((with_reducible refine Br.id ?_); first | (with_reducible first | refine br_false rfl ?_)) | ((with_reducible refine SemWp.id ?_); first | refine sem_seq ?_ | refine sem_region rfl ?_ | refine sem_cond rfl ?_ | refine sem_exit ?_ | refine sem_ret ?_) | ((with_reducible refine qThen.id ?_); first | refine qThen.go ?_) | ((with_reducible refine BodyR.id ?_); first | refine BodyR.ret ?_) | ((with_reducible refine ResG.id ?_); first | refine ResG.tmp rfl ?_ | refine ResG.nil ?_)
      have : a = b := List.ext_getElem hlen fun i h1 h2 => k2 i h1 (Nat.zero_le _)
      rw [this, cmpZ_eq rfl]
      exact Fin.mk rfl
    · have hk : k - 1 < a.length := by omega
      have g1 : (a.map u32).getD ((k : Int) - 1).toNat default = .v (.int .u32 (a[k - 1] : Int)) := getD_u32 (n := k - 1) (by omega) hk
      have g2 : (b.map u32).getD ((k : Int) - 1).toNat default = .v (.int .u32 (b[k - 1]'(by omega) : Int)) := getD_u32 (n := k - 1) (by omega) (by omega)
      have hz : a[k - 1] ≠ b[k - 1]'(by omega) → cmpZ (vl a) (vl b) = cmpZ a[k - 1] (b[k - 1]'(by omega)) := fun hne => by
        rcases Nat.lt_or_gt_of_ne hne with h | h
        · exact (cmpZ_lt (Int.ofNat_lt.2 (vl_cmp_at ha hb hlen hk (fun j hj hkj => k2 j hj (by omega)) h))).trans (cmpZ_lt (by omega)).symm
        · exact (cmpZ_gt (Int.ofNat_lt.2 (vl_cmp_at hb ha hlen.symm (k := k - 1) (by omega) (fun j hj hkj => (k2 j (by omega) (by omega)).symm) h))).trans (cmpZ_gt (by omega)).symm
      generalize hx : a[k - 1] = x at *
      generalize hy : b[k - 1]'(by omega) = y at *
      repeat' first | refine Ops.tag rfl ?_ | (refine OpsT.go ?_; (conv => arg 7; whnf)) | ((with_reducible refine Stp.isSum ?_); refine Stp.sum ?_) | ((with_reducible refine Stp.isDec ?_); first | refine Stp.decT ?_) | refine Stp.pure rfl ?_ | refine Ops.nil ?_ | (refine DOps.cons rfl rfl ?_; (conv => arg 7; whnf)) | refine DStp.pure rfl ?_ | refine PutD.mk' rfl ?_ | refine DOps.nil rfl ?_ | ((with_reducible refine Side.id ?_); first | refine Side.auto ?_) | ((with_reducible refine Br.id ?_); first | (with_reducible first | refine br_true rfl ?_) | refine br_bne (fun _ => ?_) (fun _ => ?_)) | ((with_reducible refine SemWp.id ?_); first | refine sem_seq ?_ | refine sem_region rfl ?_ | refine sem_cond rfl ?_ | refine sem_block ?_ | refine sem_ret ?_ | refine sem_skip ?_ | refine sem_draw ?_) | ((with_reducible refine qThen.id ?_); first | refine qThen.go ?_ | refine qThen.ret ?_) | ((with_reducible refine hinBlock.id ?_); first | refine hinBlock.go ?_ | refine hinBlock.ret ?_) | ((with_reducible refine hround.id ?_); first | refine hround.go ?_ | refine hround.ret ?_) | refine DStp.valS ?_ | refine DStp.call ?_ | ((with_reducible refine QAsk.id ?_); first | (refine Pur.ask (orderU_spec _ _) ?_ ?_; focus (intro h; first | exact rfl))) | ((with_reducible refine DrawReg.id ?_); refine drawQ' cx (by decide +kernel) rfl ?_) | ((with_reducible refine BodyR.id ?_); first | refine BodyR.ret ?_) | ((with_reducible refine ResG.id ?_); first | refine ResG.tmp rfl ?_ | refine ResG.nil ?_) | rw [g1] | rw [g2]
      · rename_i h
        rw [hz (by omega)]
        exact Fin.mk rfl
      · rename_i h
        have h : x = y := by omega
        refine Fin.mk ⟨k - 1, ⟨by omega, fun j h1 h2 => ?_⟩, by omega, Sub.cons rfl rfl (Sub.cons rfl rfl (Sub.cons rfl ?_ (Sub.nil _))), Subp.nil _⟩
        · rcases Nat.eq_or_lt_of_le h2 with rfl | h2
          · omega
          · exact k2 j h1 (by omega)
        · rw [show ((k - 1 : Nat) : Int) = (k : Int) - 1 from by omega]; rfl
  · repeat' first | refine Ops.tag rfl ?_ | (refine OpsT.go ?_; (conv => arg 7; whnf)) | ((with_reducible refine Stp.isNe ?_); first | refine Stp.neT ?_) | refine Stp.pure rfl ?_ | refine PutK.mk' rfl ?_ | refine Ops.nil ?_ | ((with_reducible refine Side.id ?_); first | refine Side.auto ?_) | ((with_reducible refine Br.id ?_); first | (with_reducible first | refine br_true rfl ?_)) | ((with_reducible refine SemWp.id ?_); first | refine sem_seq ?_ | refine sem_region rfl ?_ | refine sem_cond rfl ?_ | refine sem_ret ?_) | ((with_reducible refine qThen.id ?_); first | refine qThen.go ?_ | refine qThen.ret ?_) | refine Stp.call ?_ | ((with_reducible refine CallWp.id ?_); first | refine Pur.call (orderI_spec _ _) ?_) | ((with_reducible refine BodyR.id ?_); first | refine BodyR.ret ?_) | ((with_reducible refine ResG.id ?_); first | refine ResG.tmp rfl ?_ | refine ResG.nil ?_)
    refine Fin.mk ?_
    show HEnd.ret (ii (cmpZ ((a.map u32).length : Int) ((b.map u32).length : Int))) = _
    rw [ma, mb]
    rcases Nat.lt_or_gt_of_ne hlen with h | h
    · rw [cmpZ_lt (x := (a.length : Int)) (by omega), cmpZ_lt (Int.ofNat_lt.2 (vl_lt_of_len ha tb h))]
    · rw [cmpZ_gt (x := (a.length : Int)) (by omega), cmpZ_gt (Int.ofNat_lt.2 (vl_lt_of_len hb ta h))]
theorem made_dig (s : Bool) (n V : Nat) (hV : V < B ^ n) (hn : n ≤ 1099511627776) : Pur cx 56 [bb s, LL (dig n V)] (encI (ofZ (sg s V))) := by
  have := made_spec s (dig n V) (dig_lim n V) (by rw [dig_length]; exact hn)
  rwa [vl_dig, Nat.mod_eq_of_lt hV] at this
theorem abs_len {g : GI} (hg : g.Ok) : (toZ g).natAbs < B ^ g.l.length := by
  have := vl_lt hg.lim
  have h0 := Bp g.l.length
  unfold toZ sg
  split
  · split <;> omega
  · simpa using h0
theorem nl_len {g : GI} (hg : g.Ok) : (nl (toZ g).natAbs).length ≤ g.l.length := nl_len_lt (abs_len hg)
set_option maxHeartbeats 1000000 in
theorem Add_spec (g h : GI) (hg : g.Ok) (hh : h.Ok) (lg : g.l.length ≤ 1000000) (lh : h.l.length ≤ 1000000) : Pur cx 42 [encI g, encI h] (encI (ofZ (toZ g + toZ h))) := by
  have n1 := nl_len hg
  have n2 := nl_len hh
  have L1 := limbs_spec g hg
  have L2 := limbs_spec h hh
  have N1 := neg_spec g hg
  have N2 := neg_spec h hh
  generalize toZ g = x at *
  generalize toZ h = y at *
  have P := plus_spec (nl x.natAbs) (nl y.natAbs) (nl_lim _) (nl_lim _) (by omega) (by omega)
  have C := cmpN_spec (nl x.natAbs) (nl y.natAbs) (nl_lim _) (nl_lim _) (nl_top _) (nl_top _) (by omega) (by omega)
  rw [vl_nl, vl_nl] at P C
  have vx := vl_lt (nl_lim x.natAbs)
  have vy := vl_lt (nl_lim y.natAbs)
  rw [vl_nl] at vx vy
  change Pur cx _ [encP g.neg g.l, encP h.neg h.l] _
  by_cases hs : (decide (x < 0)) = (decide (y < 0))
  · have hb : (decide (x < 0) == decide (y < 0)) = true := by simp [hs]
    have M := made_dig (decide (x < 0)) (max (nl x.natAbs).length (nl y.natAbs).length + 1) (x.natAbs + y.natAbs) (by
      have e1 : B ^ (nl x.natAbs).length ≤ B ^ (max (nl x.natAbs).length (nl y.natAbs).length) := Nat.pow_le_pow_right B_pos (by omega)
      have e2 : B ^ (nl y.natAbs).length ≤ B ^ (max (nl x.natAbs).length (nl y.natAbs).length) := Nat.pow_le_pow_right B_pos (by omega)
      rw [Nat.pow_succ]
      have e3 : B ^ (max (nl x.natAbs).length (nl y.natAbs).length) * 2 ≤ B ^ (max (nl x.natAbs).length (nl y.natAbs).length) * B := Nat.mul_le_mul_left _ (by decide)
      omega) (by omega)
    have e : sg (decide (x < 0)) (x.natAbs + y.natAbs) = x + y := by
      rw [decide_eq_decide] at hs
      unfold sg
      by_cases h : x < 0
      · rw [if_pos (decide_eq_true h)]; omega
      · rw [if_neg (by simpa using h)]; omega
    rw [e] at M
    refine Pur.of (sem_calls' cx (fn := Try.f42) rfl rfl rfl rfl ?_)
    repeat' first | refine Ops.tag rfl ?_ | (refine OpsT.go ?_; (conv => arg 7; whnf)) | refine Stp.pure rfl ?_ | ((with_reducible refine PutK.isSet ?_); refine PutK.set (by repeat first | exact HsetIs.hit) ?_) | refine PutK.mk' rfl ?_ | refine Ops.nil ?_ | (refine DOps.cons rfl rfl ?_; (conv => arg 7; whnf)) | refine DStp.pure rfl ?_ | refine PutD.mk' rfl ?_ | refine DOps.nil rfl ?_ | ((with_reducible refine Look.id ?_); refine Look.auto ?_ (by repeat first | exact HGet.hit | apply HGet.miss (by omega)); try (conv => arg 7; whnf)) | ((with_reducible refine Side.id ?_); first | refine Side.auto ?_) | ((with_reducible refine Br.id ?_); first | refine br_true (by with_reducible assumption) ?_) | ((with_reducible refine SemWp.id ?_); first | refine sem_seq ?_ | refine sem_region rfl ?_ | refine sem_cond rfl ?_ | refine sem_block ?_ | refine sem_ret ?_ | refine sem_draw ?_) | ((with_reducible refine qThen.id ?_); first | refine qThen.go ?_ | refine qThen.ret ?_) | ((with_reducible refine hinBlock.id ?_); first | refine hinBlock.ret ?_) | refine Stp.look ?_ | refine Stp.call ?_ | refine Stp.eff ?_ | refine DStp.look ?_ | refine DStp.call ?_ | ((with_reducible refine CallWp.id ?_); first | refine Pur.call (N1) ?_ | refine Pur.call (P) ?_ | refine Pur.call (M) ?_) | ((with_reducible refine QAsk.id ?_); first | (refine Pur.ask (L1) ?_ ?_; focus (intro h; first | exact rfl)) | (refine Pur.ask (L2) ?_ ?_; focus (intro h; first | exact rfl)) | (refine Pur.ask (N1) ?_ ?_; focus (intro h; first | exact rfl)) | (refine Pur.ask (N2) ?_ ?_; focus (intro h; first | exact rfl))) | ((with_reducible refine DrawReg.id ?_); refine drawQ' cx (by decide +kernel) rfl ?_) | (refine newN (fun r hr => ?_); simp only [keys, List.nil_append, List.cons_append, List.map_cons, List.map_nil, List.mem_cons, List.not_mem_nil, not_or, or_false, not_false_eq_true] at hr) | ((with_reducible refine BodyR.id ?_); first | refine BodyR.ret ?_) | ((with_reducible refine ResG.id ?_); first | refine ResG.cell rfl ?_ | refine ResG.nil ?_) | ((with_reducible refine LoadIs.id ?_); first | refine LoadIs.agg (by repeat first | exact HGet.hit) rfl rfl rfl ?_) | ((with_reducible refine Upd.id ?_); first | (refine Upd.lit rfl ?_; (conv => whnf)))
    exact Fin.mk rfl
  · have hb : (decide (x < 0) == decide (y < 0)) = false := by simp [hs]
    by_cases hxy : y.natAbs ≤ x.natAbs
    · have Mi := minus_spec (nl x.natAbs) (nl y.natAbs) (nl_lim _) (nl_lim _) (by
        rcases Nat.eq_or_lt_of_le hxy with h | h
        · rw [h]; exact Nat.le_refl _
        · exact nl_len_lt (by omega)) (by omega) (by rw [vl_nl, vl_nl]; exact hxy)
      rw [vl_nl, vl_nl] at Mi
      have M := made_dig (decide (x < 0)) (nl x.natAbs).length (x.natAbs - y.natAbs) (by omega) (by omega)
      have e : sg (decide (x < 0)) (x.natAbs - y.natAbs) = x + y := by
        rw [decide_eq_decide] at hs
        unfold sg
        by_cases h : x < 0
        · rw [if_pos (decide_eq_true h)]; omega
        · rw [if_neg (by simpa using h)]; omega
      rw [e] at M
      have hc : 0 ≤ cmpZ (x.natAbs : Int) (y.natAbs : Int) := by
        rcases Nat.eq_or_lt_of_le hxy with h | h
        · rw [cmpZ_eq (by omega)]; omega
        · rw [cmpZ_gt (by omega)]; omega
      refine Pur.of (sem_calls' cx (fn := Try.f42) rfl rfl rfl rfl ?_)
      repeat' first | refine Ops.tag rfl ?_ | (refine OpsT.go ?_; (conv => arg 7; whnf)) | ((with_reducible refine Stp.isDec ?_); first | refine Stp.decT ?_) | refine Stp.pure rfl ?_ | ((with_reducible refine PutK.isSet ?_); refine PutK.set (by repeat first | exact HsetIs.hit) ?_) | refine PutK.mk' rfl ?_ | refine Ops.nil ?_ | (refine DOps.cons rfl rfl ?_; (conv => arg 7; whnf)) | refine DStp.pure rfl ?_ | refine PutD.mk' rfl ?_ | refine DOps.nil rfl ?_ | ((with_reducible refine Look.id ?_); refine Look.auto ?_ (by repeat first | exact HGet.hit | apply HGet.miss (by omega)); try (conv => arg 7; whnf)) | ((with_reducible refine Side.id ?_); first | refine Side.auto ?_) | ((with_reducible refine Br.id ?_); first | (with_reducible first | refine br_true rfl ?_) | refine br_false (by with_reducible assumption) ?_) | ((with_reducible refine SemWp.id ?_); first | refine sem_seq ?_ | refine sem_region rfl ?_ | refine sem_cond rfl ?_ | refine sem_block ?_ | refine sem_ret ?_ | refine sem_draw ?_) | ((with_reducible refine qThen.id ?_); first | refine qThen.go ?_ | refine qThen.ret ?_) | ((with_reducible refine hinBlock.id ?_); first | refine hinBlock.ret ?_) | refine Stp.look ?_ | refine Stp.call ?_ | refine Stp.eff ?_ | refine DStp.look ?_ | refine DStp.call ?_ | ((with_reducible refine CallWp.id ?_); first | refine Pur.call (N1) ?_ | refine Pur.call (C) ?_ | refine Pur.call (Mi) ?_ | refine Pur.call (M) ?_) | ((with_reducible refine QAsk.id ?_); first | (refine Pur.ask (L1) ?_ ?_; focus (intro h; first | exact rfl)) | (refine Pur.ask (L2) ?_ ?_; focus (intro h; first | exact rfl)) | (refine Pur.ask (N1) ?_ ?_; focus (intro h; first | exact rfl)) | (refine Pur.ask (N2) ?_ ?_; focus (intro h; first | exact rfl))) | ((with_reducible refine DrawReg.id ?_); refine drawQ' cx (by decide +kernel) rfl ?_) | (refine newN (fun r hr => ?_); simp only [keys, List.nil_append, List.cons_append, List.map_cons, List.map_nil, List.mem_cons, List.not_mem_nil, not_or, or_false, not_false_eq_true] at hr) | ((with_reducible refine BodyR.id ?_); first | refine BodyR.ret ?_) | ((with_reducible refine ResG.id ?_); first | refine ResG.cell rfl ?_ | refine ResG.nil ?_) | ((with_reducible refine LoadIs.id ?_); first | refine LoadIs.agg (by repeat first | exact HGet.hit) rfl rfl rfl ?_) | ((with_reducible refine Upd.id ?_); first | (refine Upd.lit rfl ?_; (conv => whnf)))
      exact Fin.mk rfl
    · have Mi := minus_spec (nl y.natAbs) (nl x.natAbs) (nl_lim _) (nl_lim _) (nl_len_lt (by omega)) (by omega) (by rw [vl_nl, vl_nl]; omega)
      rw [vl_nl, vl_nl] at Mi
      have M := made_dig (decide (y < 0)) (nl y.natAbs).length (y.natAbs - x.natAbs) (by omega) (by omega)
      have e : sg (decide (y < 0)) (y.natAbs - x.natAbs) = x + y := by
        rw [decide_eq_decide] at hs
        unfold sg
        by_cases h : y < 0
        · rw [if_pos (decide_eq_true h)]; omega
        · rw [if_neg (by simpa using h)]; omega
      rw [e] at M
      have hc : ¬ 0 ≤ cmpZ (x.natAbs : Int) (y.natAbs : Int) := by rw [cmpZ_lt (by omega)]; omega
      refine Pur.of (sem_calls' cx (fn := Try.f42) rfl rfl rfl rfl ?_)
      repeat' first | refine Ops.tag rfl ?_ | (refine OpsT.go ?_; (conv => arg 7; whnf)) | ((with_reducible refine Stp.isDec ?_); first | refine Stp.decF ?_) | refine Stp.pure rfl ?_ | ((with_reducible refine PutK.isSet ?_); refine PutK.set (by repeat first | exact HsetIs.hit) ?_) | refine PutK.mk' rfl ?_ | refine Ops.nil ?_ | (refine DOps.cons rfl rfl ?_; (conv => arg 7; whnf)) | refine DStp.pure rfl ?_ | refine PutD.mk' rfl ?_ | refine DOps.nil rfl ?_ | ((with_reducible refine Look.id ?_); refine Look.auto ?_ (by repeat first | exact HGet.hit | apply HGet.miss (by omega)); try (conv => arg 7; whnf)) | ((with_reducible refine Side.id ?_); first | refine Side.auto ?_) | ((with_reducible refine Br.id ?_); first | (with_reducible first | refine br_false rfl ?_) | refine br_false (by with_reducible assumption) ?_) | ((with_reducible refine SemWp.id ?_); first | refine sem_seq ?_ | refine sem_region rfl ?_ | refine sem_cond rfl ?_ | refine sem_block ?_ | refine sem_ret ?_ | refine sem_skip ?_ | refine sem_draw ?_) | ((with_reducible refine qThen.id ?_); first | refine qThen.go ?_) | ((with_reducible refine hinBlock.id ?_); first | refine hinBlock.go ?_) | refine Stp.look ?_ | refine Stp.call ?_ | refine Stp.eff ?_ | refine DStp.look ?_ | refine DStp.call ?_ | ((with_reducible refine CallWp.id ?_); first | refine Pur.call (N2) ?_ | refine Pur.call (C) ?_ | refine Pur.call (Mi) ?_ | refine Pur.call (M) ?_) | ((with_reducible refine QAsk.id ?_); first | (refine Pur.ask (L1) ?_ ?_; focus (intro h; first | exact rfl)) | (refine Pur.ask (L2) ?_ ?_; focus (intro h; first | exact rfl)) | (refine Pur.ask (N1) ?_ ?_; focus (intro h; first | exact rfl)) | (refine Pur.ask (N2) ?_ ?_; focus (intro h; first | exact rfl))) | ((with_reducible refine DrawReg.id ?_); refine drawQ' cx (by decide +kernel) rfl ?_) | (refine newN (fun r hr => ?_); simp only [keys, List.nil_append, List.cons_append, List.map_cons, List.map_nil, List.mem_cons, List.not_mem_nil, not_or, or_false, not_false_eq_true] at hr) | ((with_reducible refine BodyR.id ?_); first | refine BodyR.ret ?_) | ((with_reducible refine ResG.id ?_); first | refine ResG.cell rfl ?_ | refine ResG.nil ?_) | ((with_reducible refine LoadIs.id ?_); first | refine LoadIs.agg (by repeat first | exact HGet.hit) rfl rfl rfl ?_) | ((with_reducible refine Upd.id ?_); first | (refine Upd.lit rfl ?_; (conv => whnf)))
      exact Fin.mk rfl
end Go.Proofs.Hk

set_option linter.unusedSimpArgs false
set_option linter.unusedVariables false
namespace Go.Proofs.Hk
open Go Go.Proofs

theorem Cmp_spec (g h : GI) (hg : g.Ok) (hh : h.Ok) (lg : g.l.length ≤ 1000000) (lh : h.l.length ≤ 1000000) : Pur cx 46 [encI g, encI h] (ii (cmpZ (toZ g) (toZ h))) := by
  have n1 := nl_len hg
  have n2 := nl_len hh
  have L1 := limbs_spec g hg
  have L2 := limbs_spec h hh
  have N1 := neg_spec g hg
  have N2 := neg_spec h hh
  generalize toZ g = x at *
  generalize toZ h = y at *
  have C1 := cmpN_spec (nl x.natAbs) (nl y.natAbs) (nl_lim _) (nl_lim _) (nl_top _) (nl_top _) (by omega) (by omega)
  have C2 := cmpN_spec (nl y.natAbs) (nl x.natAbs) (nl_lim _) (nl_lim _) (nl_top _) (nl_top _) (by omega) (by omega)
  rw [vl_nl, vl_nl] at C1 C2
  change Pur cx _ [encP g.neg g.l, encP h.neg h.l] _
  refine Pur.of (sem_calls' cx (fn := Try.f46) rfl rfl rfl rfl ?_)
  by_cases hx : x < 0 <;> by_cases hy : y < 0
  · rw [decide_eq_true hx] at N1
    rw [decide_eq_true hy] at N2
    repeat' first | refine Ops.tag rfl ?_ | ((with_reducible first | refine OpsT.yes ?_); (conv => arg 7; whnf)) | (with_reducible first | refine OpsT.no ?_) | (refine OpsT.go ?_; (conv => arg 7; whnf)) | (with_reducible first | refine Stp.andT ?_ | refine Stp.andF ?_ | refine Stp.notT ?_) | refine Stp.pure rfl ?_ | refine PutK.mk' rfl ?_ | refine Ops.nil ?_ | (refine DOps.cons rfl rfl ?_; (conv => arg 7; whnf)) | refine DStp.pure rfl ?_ | refine PutD.mk' rfl ?_ | refine DOps.nil rfl ?_ | ((with_reducible refine Look.id ?_); refine Look.auto ?_ (by repeat first | exact HGet.hit | apply HGet.miss (by omega)); try (conv => arg 7; whnf)) | ((with_reducible refine Side.id ?_); first | refine Side.auto ?_) | ((with_reducible refine Br.id ?_); first | (with_reducible first | refine br_true rfl ?_ | refine br_false rfl ?_)) | ((with_reducible refine SemWp.id ?_); first | refine sem_seq ?_ | refine sem_region rfl ?_ | refine sem_cond rfl ?_ | refine sem_block ?_ | refine sem_ret ?_ | refine sem_draw ?_) | ((with_reducible refine qThen.id ?_); first | refine qThen.go ?_ | refine qThen.ret ?_) | ((with_reducible refine hinBlock.id ?_); first | refine hinBlock.ret ?_) | refine Stp.valS ?_ | refine Stp.look ?_ | refine Stp.call ?_ | refine Stp.eff ?_ | refine DStp.look ?_ | refine DStp.call ?_ | ((with_reducible refine CallWp.id ?_); first | refine Pur.call (N1) ?_ | refine Pur.call (N2) ?_) | ((with_reducible refine QAsk.id ?_); first | (refine Pur.ask (L1) ?_ ?_; focus (intro h; first | exact rfl)) | (refine Pur.ask (L2) ?_ ?_; focus (intro h; first | exact rfl)) | (refine Pur.ask (C2) ?_ ?_; focus (intro h; first | exact rfl))) | ((with_reducible refine DrawReg.id ?_); refine drawQ' cx (by decide +kernel) rfl ?_) | (refine newN (fun r hr => ?_); simp only [keys, List.nil_append, List.cons_append, List.map_cons, List.map_nil, List.mem_cons, List.not_mem_nil, not_or, or_false, not_false_eq_true] at hr) | ((with_reducible refine BodyR.id ?_); first | refine BodyR.ret ?_) | ((with_reducible refine ResG.id ?_); first | refine ResG.tmp rfl ?_ | refine ResG.nil ?_)
    refine Fin.mk (congrArg HEnd.ret ?_)
    show ii _ = ii _
    unfold cmpZ
    congr 1
    split <;> split <;> (try split) <;> (try split) <;> omega
  · rw [decide_eq_true hx] at N1
    rw [decide_eq_false hy] at N2
    repeat' first | refine Ops.tag rfl ?_ | ((with_reducible first | refine OpsT.yes ?_); (conv => arg 7; whnf)) | (refine OpsT.go ?_; (conv => arg 7; whnf)) | (with_reducible first | refine Stp.andT ?_ | refine Stp.notF ?_) | refine Stp.pure rfl ?_ | refine PutK.mk' rfl ?_ | refine Ops.nil ?_ | ((with_reducible refine Look.id ?_); refine Look.auto ?_ (by repeat first | exact HGet.hit | apply HGet.miss (by omega)); try (conv => arg 7; whnf)) | ((with_reducible refine Side.id ?_); first | refine Side.auto ?_) | ((with_reducible refine Br.id ?_); first | (with_reducible first | refine br_true rfl ?_)) | ((with_reducible refine SemWp.id ?_); first | refine sem_seq ?_ | refine sem_region rfl ?_ | refine sem_cond rfl ?_ | refine sem_block ?_ | refine sem_ret ?_) | ((with_reducible refine qThen.id ?_); first | refine qThen.go ?_ | refine qThen.ret ?_) | ((with_reducible refine hinBlock.id ?_); first | refine hinBlock.ret ?_) | refine Stp.look ?_ | refine Stp.call ?_ | refine Stp.eff ?_ | ((with_reducible refine CallWp.id ?_); first | refine Pur.call (N1) ?_ | refine Pur.call (N2) ?_) | (refine newN (fun r hr => ?_); simp only [keys, List.nil_append, List.cons_append, List.map_cons, List.map_nil, List.mem_cons, List.not_mem_nil, not_or, or_false, not_false_eq_true] at hr) | ((with_reducible refine BodyR.id ?_); first | refine BodyR.ret ?_) | ((with_reducible refine ResG.id ?_); first | refine ResG.tmp rfl ?_ | refine ResG.nil ?_)
    exact Fin.mk (by rw [cmpZ_lt (by omega)]; rfl)
  · rw [decide_eq_false hx] at N1
    rw [decide_eq_true hy] at N2
    repeat' first | refine Ops.tag rfl ?_ | ((with_reducible first | refine OpsT.yes ?_); (conv => arg 7; whnf)) | (with_reducible first | refine OpsT.no ?_) | (refine OpsT.go ?_; (conv => arg 7; whnf)) | (with_reducible first | refine Stp.andT ?_ | refine Stp.andF ?_ | refine Stp.notF ?_) | refine Stp.pure rfl ?_ | refine PutK.mk' rfl ?_ | refine Ops.nil ?_ | ((with_reducible refine Look.id ?_); refine Look.auto ?_ (by repeat first | exact HGet.hit | apply HGet.miss (by omega)); try (conv => arg 7; whnf)) | ((with_reducible refine Side.id ?_); first | refine Side.auto ?_) | ((with_reducible refine Br.id ?_); first | (with_reducible first | refine br_true rfl ?_ | refine br_false rfl ?_)) | ((with_reducible refine SemWp.id ?_); first | refine sem_seq ?_ | refine sem_region rfl ?_ | refine sem_cond rfl ?_ | refine sem_block ?_ | refine sem_ret ?_) | ((with_reducible refine qThen.id ?_); first | refine qThen.go ?_ | refine qThen.ret ?_) | ((with_reducible refine hinBlock.id ?_); first | refine hinBlock.ret ?_) | refine Stp.valS ?_ | refine Stp.look ?_ | refine Stp.call ?_ | refine Stp.eff ?_ | ((with_reducible refine CallWp.id ?_); first | refine Pur.call (N1) ?_ | refine Pur.call (N2) ?_) | (refine newN (fun r hr => ?_); simp only [keys, List.nil_append, List.cons_append, List.map_cons, List.map_nil, List.mem_cons, List.not_mem_nil, not_or, or_false, not_false_eq_true] at hr) | ((with_reducible refine BodyR.id ?_); first | refine BodyR.ret ?_) | ((with_reducible refine ResG.id ?_); first | refine ResG.tmp rfl ?_ | refine ResG.nil ?_)
    exact Fin.mk (by rw [cmpZ_gt (by omega)]; rfl)
  · rw [decide_eq_false hx] at N1
    rw [decide_eq_false hy] at N2
    repeat' first | refine Ops.tag rfl ?_ | ((with_reducible first | refine OpsT.yes ?_); (conv => arg 7; whnf)) | (with_reducible first | refine OpsT.no ?_) | (refine OpsT.go ?_; (conv => arg 7; whnf)) | (with_reducible first | refine Stp.andT ?_ | refine Stp.andF ?_ | refine Stp.notF ?_) | refine Stp.pure rfl ?_ | refine PutK.mk' rfl ?_ | refine Ops.nil ?_ | (refine DOps.cons rfl rfl ?_; (conv => arg 7; whnf)) | refine DStp.pure rfl ?_ | refine PutD.mk' rfl ?_ | refine DOps.nil rfl ?_ | ((with_reducible refine Look.id ?_); refine Look.auto ?_ (by repeat first | exact HGet.hit | apply HGet.miss (by omega)); try (conv => arg 7; whnf)) | ((with_reducible refine Side.id ?_); first | refine Side.auto ?_) | ((with_reducible refine Br.id ?_); first | (with_reducible first | refine br_false rfl ?_)) | ((with_reducible refine SemWp.id ?_); first | refine sem_seq ?_ | refine sem_region rfl ?_ | refine sem_cond rfl ?_ | refine sem_block ?_ | refine sem_ret ?_ | refine sem_skip ?_ | refine sem_draw ?_) | ((with_reducible refine qThen.id ?_); first | refine qThen.go ?_) | ((with_reducible refine hinBlock.id ?_); first | refine hinBlock.go ?_) | refine Stp.valS ?_ | refine Stp.look ?_ | refine Stp.call ?_ | refine Stp.eff ?_ | refine DStp.look ?_ | refine DStp.call ?_ | ((with_reducible refine CallWp.id ?_); first | refine Pur.call (N1) ?_ | refine Pur.call (N2) ?_) | ((with_reducible refine QAsk.id ?_); first | (refine Pur.ask (L1) ?_ ?_; focus (intro h; first | exact rfl)) | (refine Pur.ask (L2) ?_ ?_; focus (intro h; first | exact rfl)) | (refine Pur.ask (C1) ?_ ?_; focus (intro h; first | exact rfl))) | ((with_reducible refine DrawReg.id ?_); refine drawQ' cx (by decide +kernel) rfl ?_) | (refine newN (fun r hr => ?_); simp only [keys, List.nil_append, List.cons_append, List.map_cons, List.map_nil, List.mem_cons, List.not_mem_nil, not_or, or_false, not_false_eq_true] at hr) | ((with_reducible refine BodyR.id ?_); first | refine BodyR.ret ?_) | ((with_reducible refine ResG.id ?_); first | refine ResG.tmp rfl ?_ | refine ResG.nil ?_)
    refine Fin.mk (congrArg HEnd.ret ?_)
    show ii _ = ii _
    rw [Int.natAbs_of_nonneg (by omega), Int.natAbs_of_nonneg (by omega)]

theorem get_u32 {l : List Nat} {j : Nat} {z : Nat} (hj : j < l.length) (hz : z = j) : (l.map u32)[z]? = some (.v (.int .u32 (l[j] : Int))) := by
  subst hz; simp [u32, hj]
theorem set_u32 (l : List Nat) {j z x : Nat} (hz : z = j) {k : Int} (hk : k = x) : (l.map u32).set z (.v (.int .u32 k)) = (l.set j x).map u32 := by
  subst hz hk; simp [List.map_set, u32]
theorem sg_mul (x y : Int) : sg (decide (x < 0) != decide (y < 0)) (x.natAbs * y.natAbs) = x * y := by
  unfold sg
  rcases (by omega : x < 0 ∨ 0 ≤ x) with hx | hx <;> rcases (by omega : y < 0 ∨ 0 ≤ y) with hy | hy
  · have e1 : x = -(x.natAbs : Int) := by omega
    have e2 : y = -(y.natAbs : Int) := by omega
    simp only [decide_eq_true hx, decide_eq_true hy, bne_self_eq_false, Bool.false_eq_true, if_false, Int.natCast_mul]
    conv => rhs; rw [e1, e2, Int.neg_mul_neg]
  · have e1 : x = -(x.natAbs : Int) := by omega
    have e2 : y = (y.natAbs : Int) := by omega
    have hy' : ¬ y < 0 := by omega
    simp only [decide_eq_true hx, decide_eq_false hy', Bool.true_bne, Bool.not_false, if_true, Int.natCast_mul]
    conv => rhs; rw [e1, e2, Int.neg_mul]
  · have e1 : x = (x.natAbs : Int) := by omega
    have e2 : y = -(y.natAbs : Int) := by omega
    have hx' : ¬ x < 0 := by omega
    simp only [decide_eq_false hx', decide_eq_true hy, Bool.false_bne, if_true, Int.natCast_mul]
    conv => rhs; rw [e1, e2, Int.mul_neg]
  · have e1 : x = (x.natAbs : Int) := by omega
    have e2 : y = (y.natAbs : Int) := by omega
    have hx' : ¬ x < 0 := by omega
    have hy' : ¬ y < 0 := by omega
    simp only [decide_eq_false hx', decide_eq_false hy', bne_self_eq_false, Bool.false_eq_true, if_false, Int.natCast_mul]
    conv => rhs; rw [e1, e2]
set_option maxHeartbeats 2000000 in
theorem Mul_spec (g h : GI) (hg : g.Ok) (hh : h.Ok) (lg : g.l.length ≤ 1000000) (lh : h.l.length ≤ 1000000) : Pur cx 60 [encI g, encI h] (encI (ofZ (toZ g * toZ h))) := by
  have n1 := nl_len hg
  have n2 := nl_len hh
  have L1 := limbs_spec g hg
  have L2 := limbs_spec h hh
  have N1 := neg_spec g hg
  have N2 := neg_spec h hh
  generalize toZ g = zx at *
  generalize toZ h = zy at *
  have hx := nl_lim zx.natAbs
  have hy := nl_lim zy.natAbs
  have vx := vl_nl zx.natAbs
  have vy := vl_nl zy.natAbs
  generalize nl zx.natAbs = x at *
  generalize nl zy.natAbs = y at *
  have mx : (x.map u32).length = x.length := by simp
  have my : (y.map u32).length = y.length := by simp
  change Pur cx _ [encP g.neg g.l, encP h.neg h.l] _
  refine Pur.of (sem_calls' cx (fn := Try.f60) rfl rfl rfl rfl ?_)
  repeat' first | refine Ops.tag rfl ?_ | (refine OpsT.go ?_; (conv => arg 7; whnf)) | ((with_reducible refine Stp.isSum ?_); refine Stp.sum ?_) | refine Stp.pure rfl ?_ | refine PutK.mk' rfl ?_ | refine Ops.nil ?_ | (refine DOps.cons rfl rfl ?_; (conv => arg 7; whnf)) | refine DStp.pure rfl ?_ | refine PutD.mk' rfl ?_ | refine DOps.nil rfl ?_ | ((with_reducible refine Look.id ?_); refine Look.auto ?_ (by repeat first | exact HGet.hit | apply HGet.miss (by omega)); try (conv => arg 7; whnf)) | ((with_reducible refine Side.id ?_); first | refine Side.auto ?_) | ((with_reducible refine SemWp.id ?_); first | refine sem_seq ?_ | refine sem_region rfl ?_ | refine sem_block ?_ | refine sem_draw ?_) | ((with_reducible refine qThen.id ?_); first | refine qThen.go ?_) | refine Stp.eff ?_ | refine DStp.look ?_ | refine DStp.call ?_ | ((with_reducible refine QAsk.id ?_); first | (refine Pur.ask (L1) ?_ ?_; focus (intro h; first | exact rfl)) | (refine Pur.ask (L2) ?_ ?_; focus (intro h; first | exact rfl))) | ((with_reducible refine DrawReg.id ?_); refine drawQ' cx (by decide +kernel) rfl ?_) | (refine newN (fun r hr => ?_); simp only [keys, List.nil_append, List.cons_append, List.map_cons, List.map_nil, List.mem_cons, List.not_mem_nil, not_or, or_false, not_false_eq_true] at hr)
  rename_i r2 h2 r3 h3 r4 h4
  refine sem_loop cx (ι := List Nat × Nat) (fun i => i.2 ≤ x.length ∧ Lim i.1 ∧ i.1.length = x.length + y.length ∧ vl i.1 = vl (x.take i.2) * vl y ∧ ∀ j (hj : j < i.1.length), i.2 + y.length ≤ j → i.1[j] = 0)
    (fun i => [(2, .sure, .ptr r2 0), (3, .sure, .ptr r3 0), (4, .sure, .ptr r4 0), (5, .sure, LL x), (6, .sure, LL y), (7, .sure, .arr r 0 (x.length + y.length) (x.length + y.length) 1), (23, .sure, LL x), (24, .sure, ii x.length), (25, .sure, ii i.2)])
    (fun i => [(r, .cells (i.1.map u32) 89), (r4, .cells [bb false, .v (.slice none 0 0)] 40), (r3, .cells [bb h.neg, LL h.l] 40), (r2, .cells [bb g.neg, LL g.l] 40)]) (fun i => x.length - i.2) (List.replicate (x.length + y.length) 0, 0) ⟨Nat.zero_le _, Lim.rep _, by simp, by simp [vl_rep, vl], fun j hj _ => by simp⟩ ?_ ?_ ?_
  · exact Sub.cons rfl rfl (Sub.cons rfl rfl (Sub.cons rfl rfl (Sub.cons rfl rfl (Sub.cons rfl rfl (Sub.cons rfl (by
      show HV.arr r 0 (((x.map u32).length : Int) + ((y.map u32).length : Int)).toNat (((x.map u32).length : Int) + ((y.map u32).length : Int)).toNat 1 = _
      rw [show (((x.map u32).length : Int) + ((y.map u32).length : Int)).toNat = x.length + y.length from by omega]) (Sub.cons rfl rfl (Sub.cons rfl (by rw [mx]; rfl) (Sub.cons rfl rfl (Sub.nil _)))))))))
  · refine Subp.of_eq ?_
    show [(r, Res.cells (List.replicate (((x.map u32).length : Int) + ((y.map u32).length : Int)).toNat (.v (.int .u32 0))) 89), _, _, _] = _
    rw [show (((x.map u32).length : Int) + ((y.map u32).length : Int)).toNat = x.length + y.length from by omega, List.map_replicate]
    rfl
  rintro ⟨out, i⟩ ⟨i1, i2, i3, i4, i5⟩
  simp only [] at i1 i2 i3 i4 i5
  dsimp only
  have mo : (out.map u32).length = out.length := by simp
  by_cases hix : i < x.length
  · have g1 : (x.map u32).getD (i : Int).toNat default = .v (.int .u32 (x[i] : Int)) := getD_u32 (n := i) rfl hix
    have bx := hx.get hix
    have ex := vl_take hix
    generalize x[i] = p at *
    have bx' : p < 4294967296 := bx
    repeat' first | refine Ops.tag rfl ?_ | (refine OpsT.go ?_; (conv => arg 7; whnf)) | ((with_reducible refine Stp.isDec ?_); first | refine Stp.decT ?_) | refine Stp.pure rfl ?_ | refine Ops.nil ?_ | ((with_reducible refine Side.id ?_); first | refine Side.auto ?_) | ((with_reducible refine Br.id ?_); first | (with_reducible first | refine br_true rfl ?_)) | ((with_reducible refine SemWp.id ?_); first | refine sem_seq ?_ | refine sem_region rfl ?_ | refine sem_cond rfl ?_ | refine sem_block ?_ | refine sem_skip ?_) | ((with_reducible refine qThen.id ?_); first | refine qThen.go ?_) | refine Stp.valS ?_ | rw [g1]
    refine sem_loop cx (ι := List Nat × Nat × Nat) (fun k => k.2.1 ≤ y.length ∧ Lim k.1 ∧ k.1.length = x.length + y.length ∧ k.2.2 < B ∧ vl k.1 + B ^ (i + k.2.1) * k.2.2 = vl (x.take i) * vl y + B ^ i * (p * vl (y.take k.2.1)) ∧ ∀ j (hj : j < k.1.length), i + y.length ≤ j → k.1[j] = 0)
      (fun k => [(2, .sure, .ptr r2 0), (3, .sure, .ptr r3 0), (4, .sure, .ptr r4 0), (5, .sure, LL x), (6, .sure, LL y), (7, .sure, .arr r 0 (x.length + y.length) (x.length + y.length) 1), (23, .sure, LL x), (24, .sure, ii x.length), (25, .sure, ii i), (8, .sure, ii i), (9, .sure, u32 p), (10, .sure, u64 k.2.2), (30, .sure, LL y), (31, .sure, ii y.length), (32, .sure, ii k.2.1)])
      (fun k => [(r, .cells (k.1.map u32) 89), (r4, .cells [bb false, .v (.slice none 0 0)] 40), (r3, .cells [bb h.neg, LL h.l] 40), (r2, .cells [bb g.neg, LL g.l] 40)]) (fun k => y.length - k.2.1) (out, 0, 0) ⟨Nat.zero_le _, i2, i3, B_pos, by simp [i4, vl], i5⟩ (by repeat' first | exact Sub.nil _ | refine Sub.auto ?_) (Subp.refl _) ?_
    rintro ⟨o, k, c⟩ ⟨k1, k2, k3, k4, k5, k6⟩
    simp only [] at k1 k2 k3 k4 k5 k6
    dsimp only
    have mo2 : (o.map u32).length = o.length := by simp
    have k4' : c < 4294967296 := k4
    by_cases hky : k < y.length
    · have g2 : (y.map u32).getD (k : Int).toNat default = .v (.int .u32 (y[k] : Int)) := getD_u32 (n := k) rfl hky
      have by_ := hy.get hky
      have ey := vl_take hky
      generalize y[k] = q at *
      have hj : i + k < o.length := by omega
      have bo := k2.get hj
      have g3 : (o.map u32)[0 + ((i : Int) + k).toNat * 1]? = some (.v (.int .u32 (o[i + k] : Int))) := get_u32 (j := i + k) hj (by omega)
      have hpq := mul_le bx by_
      have hpq1 : ((p * q : Nat) : Int) = (p : Int) * q := Int.natCast_mul _ _
      have hpq2 : (p : Int) * q ≤ 18446744065119617025 := by omega
      have hpq3 : 0 ≤ (p : Int) * q := by omega
      have hset := vl_set (l := o) (j := i + k) (d := (c + p * q + o[i + k]) % B) hj
      have hstep := mul_step hset k5
      have bo' : o[i + k] < 4294967296 := bo
      have bq' : q < 4294967296 := by_
      generalize hoik : o[i + k] = v at *
      repeat' first | refine Ops.tag rfl ?_ | (refine OpsT.go ?_; (conv => arg 7; whnf)) | ((with_reducible refine Stp.isSum ?_); refine Stp.sum ?_) | ((with_reducible refine Stp.isSumU ?_); refine Stp.sumU ?_) | ((with_reducible refine Stp.isDec ?_); first | refine Stp.decT ?_) | refine Stp.pure rfl ?_ | ((with_reducible refine PutK.isSet ?_); refine PutK.set (by repeat first | exact HsetIs.hit) ?_) | refine PutK.mk' rfl ?_ | refine Ops.nil ?_ | ((with_reducible refine Look.id ?_); refine Look.auto ?_ (by repeat first | exact HGet.hit); try (conv => arg 7; whnf)) | ((with_reducible refine Side.id ?_); first | refine Side.auto ?_) | ((with_reducible refine Br.id ?_); first | (with_reducible first | refine br_true rfl ?_)) | ((with_reducible refine SemWp.id ?_); first | refine sem_seq ?_ | refine sem_region rfl ?_ | refine sem_cond rfl ?_ | refine sem_block ?_ | refine sem_skip ?_) | ((with_reducible refine qThen.id ?_); first | refine qThen.go ?_) | ((with_reducible refine hinBlock.id ?_); first | refine hinBlock.go ?_) | ((with_reducible refine hround.id ?_); first | refine hround.go ?_) | refine Stp.valS ?_ | refine Stp.look ?_ | refine Stp.call ?_ | refine Stp.eff ?_ | ((with_reducible refine CallWp.id ?_); first | refine Pur.call (low_specI _) ?_) | ((with_reducible refine Upd.id ?_); first | refine Upd.set (by omega) ?_) | rw [g2] | (rw [g3]; (conv => arg 7; whnf))
      have z : ((c : Int) + ((p : Int) * q + v)) = ((c + p * q + v : Nat) : Int) := by omega
      refine Fin.mk ⟨(o.set (i + k) ((c + p * q + v) % B), k + 1, (c + p * q + v) / B), ⟨by simp only []; omega, k2.set (Nat.mod_lt _ B_pos), by simp only [List.length_set]; exact k3, ?_, ?_, fun j hj' hle => ?_⟩, by simp only []; omega, Sub.cons rfl rfl (Sub.cons rfl rfl (Sub.cons rfl rfl (Sub.cons rfl rfl (Sub.cons rfl rfl (Sub.cons rfl rfl (Sub.cons rfl rfl (Sub.cons rfl rfl (Sub.cons rfl rfl (Sub.cons rfl rfl (Sub.cons rfl rfl (Sub.cons rfl (by rw [z]; exact congrArg (fun k => HV.v (.int .u64 k)) (shr32 _)) (Sub.cons rfl rfl (Sub.cons rfl rfl (Sub.cons rfl rfl (Sub.nil _))))))))))))))), Subp.of_eq ?_⟩
      · exact Nat.div_lt_of_lt_mul (by show c + p * q + v < 4294967296 * 4294967296; omega)
      · simp only []
        rw [ey, show i + (k + 1) = i + k + 1 from by omega, Nat.pow_succ, hstep, Nat.mul_add, Nat.mul_add, Nat.pow_add]
        simp only [Nat.add_assoc, Nat.mul_assoc, Nat.mul_comm, Nat.mul_left_comm]
      · simp only [List.length_set] at hj'
        rw [List.getElem_set_ne (by omega)]
        exact k6 j hj' hle
      · rw [z, mod32]
        show [(r, Res.cells ((o.map u32).set (0 + ((i : Int) + k).toNat * 1) (.v (.int .u32 (((c + p * q + v) % B : Nat) : Int)))) 89), _, _, _] = _
        rw [set_u32 o (j := i + k) (by omega) rfl]
    · have hk : k = y.length := by omega
      subst hk
      rw [List.take_length] at k5
      have hj : i + y.length < o.length := by omega
      have hset := vl_set (l := o) (j := i + y.length) (d := c % B) hj
      rw [k6 _ hj (Nat.le_refl _), Nat.mul_zero, Nat.add_zero, Nat.mod_eq_of_lt k4, k5] at hset
      repeat' first | refine Ops.tag rfl ?_ | (refine OpsT.go ?_; (conv => arg 7; whnf)) | ((with_reducible refine Stp.isSum ?_); refine Stp.sum ?_) | ((with_reducible refine Stp.isDec ?_); first | refine Stp.decF ?_) | refine Stp.pure rfl ?_ | ((with_reducible refine PutK.isSet ?_); refine PutK.set (by repeat first | exact HsetIs.hit) ?_) | refine PutK.mk' rfl ?_ | refine Ops.nil ?_ | ((with_reducible refine Look.id ?_); refine Look.auto ?_ (by repeat first | exact HGet.hit); try (conv => arg 7; whnf)) | ((with_reducible refine Side.id ?_); first | refine Side.auto ?_) | ((with_reducible refine Br.id ?_); first | (with_reducible first | refine br_false rfl ?_)) | ((with_reducible refine SemWp.id ?_); first | refine sem_seq ?_ | refine sem_region rfl ?_ | refine sem_cond rfl ?_ | refine sem_exit ?_) | ((with_reducible refine qThen.id ?_); first | refine qThen.go ?_) | ((with_reducible refine hinBlock.id ?_); first | refine hinBlock.go ?_) | ((with_reducible refine hround.id ?_); first | refine hround.go ?_) | refine Stp.valS ?_ | refine Stp.look ?_ | refine Stp.call ?_ | refine Stp.eff ?_ | ((with_reducible refine CallWp.id ?_); first | refine Pur.call (low_specI _) ?_) | ((with_reducible refine Upd.id ?_); first | refine Upd.set (by omega) ?_)
      refine Fin.mk ⟨(o.set (i + y.length) c, i + 1), ⟨by simp only []; omega, k2.set k4, by simp only [List.length_set]; exact k3, ?_, fun j hj' hle => ?_⟩, by simp only []; omega, by repeat' first | exact Sub.nil _ | refine Sub.auto ?_, Subp.of_eq ?_⟩
      · simp only []
        rw [hset, ex, Nat.add_mul, Nat.mul_assoc]
      · simp only [List.length_set] at hj'
        rw [List.getElem_set_ne (by simp only [] at hle; omega)]
        exact k6 j hj' (by simp only [] at hle; omega)
      · rw [mod32, Nat.mod_eq_of_lt k4]
        show [(r, Res.cells ((o.map u32).set (0 + ((i : Int) + ((y.map u32).length : Int)).toNat * 1) (.v (.int .u32 (c : Int)))) 89), _, _, _] = _
        rw [set_u32 o (j := i + y.length) (by omega) rfl]
  · have hi : i = x.length := by omega
    subst hi
    rw [List.take_length, vx, vy] at i4
    have hM := made_spec (decide (zx < 0) != decide (zy < 0)) out i2 (by omega)
    have e : sg (decide (zx < 0) != decide (zy < 0)) (vl out) = zx * zy := by rw [i4, sg_mul]
    rw [e] at hM
    refine sem_freeze cx 7 r rfl HPick.hit (by omega) (Nat.le_refl _) ?_
    have hcut : List.take (x.length + y.length) (List.drop 0 (out.map u32)) = out.map u32 := by rw [List.drop_zero, List.take_of_length_le (by omega)]
    repeat' first | (refine drawE' cx [(r4, .cells [bb false, .v (.slice none 0 0)] 40)] [(r3, .cells [bb h.neg, LL h.l] 40), (r2, .cells [bb g.neg, LL g.l] 40)] [7] (List.Perm.refl _) (by decide +kernel) rfl ?_) | refine Ops.tag rfl ?_ | (refine OpsT.go ?_; (conv => arg 7; whnf)) | ((with_reducible refine Stp.isDec ?_); first | refine Stp.decF ?_) | refine Stp.pure rfl ?_ | refine Ops.nil ?_ | (refine DOps.cons rfl rfl ?_; (conv => arg 7; whnf)) | refine DStp.pure rfl ?_ | refine PutD.mk' rfl ?_ | refine DOps.nil rfl ?_ | ((with_reducible refine Look.id ?_); refine Look.auto ?_ (by repeat first | exact HGet.hit | apply HGet.miss (by omega)); try (conv => arg 7; whnf)) | ((with_reducible refine Br.id ?_); first | (with_reducible first | refine br_false rfl ?_)) | ((with_reducible refine SemWp.id ?_); first | refine sem_seq ?_ | refine sem_region rfl ?_ | refine sem_cond rfl ?_ | refine sem_exit ?_ | refine sem_ret ?_ | refine sem_draw ?_) | ((with_reducible refine qThen.id ?_); first | refine qThen.go ?_) | refine DStp.look ?_ | refine DStp.call ?_ | ((with_reducible refine QAsk.id ?_); first | (refine Pur.ask (N1) ?_ ?_; focus (intro h; first | exact rfl)) | (refine Pur.ask (N2) ?_ ?_; focus (intro h; first | exact rfl)) | (refine Pur.ask (hM) ?_ ?_; focus (intro h; first | exact rfl))) | ((with_reducible refine BodyR.id ?_); first | refine BodyR.ret ?_) | ((with_reducible refine ResG.id ?_); first | refine ResG.cell rfl ?_ | refine ResG.nil ?_) | ((with_reducible refine LoadIs.id ?_); first | refine LoadIs.agg (by repeat first | exact HGet.hit) rfl rfl rfl ?_) | rw [hcut] | (refine DOps.turn rfl rfl rfl ?_; (conv => arg 7; whnf)) | refine TStp.look ?_ | refine TStp.upd [(r4, .cells _ 40)] rfl rfl HsetIs.hit ?_
    exact Fin.mk rfl
end Go.Proofs.Hk

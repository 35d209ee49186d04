import Derived.Test.YtmgcmljldggllaaN29p
set_option linter.unusedSimpArgs false
set_option linter.unusedVariables false
namespace Go.Proofs.Hk
open Go Go.Proofs

set_option maxHeartbeats 8000000 in
theorem rPath_spec (l : GLow) (b : List GI) (c : List GC) (h : SmLow l) (sb : ∀ g ∈ b, Sm g) (nb : b.length ≤ 60) (nc : c.length ≤ 100) (sc : ∀ k ∈ c, k.w.length ≤ 60 ∧ ∀ g ∈ k.w, Sm g) :
    Pur cx 25 [encLow l, LIs b, LCs c] (pathV l b c) := by
  have R := rRight_spec l h
  have rto := @right_to l
  have rn := @right_n l
  have he : ∀ e ∈ l.es, SmE e := h.es
  obtain ⟨locs, slots, es, vs⟩ := l
  have mb : (b.map encI).length = b.length := by simp
  have m1 : (locs.map encLoc).length = locs.length := by simp
  have m2 : (slots.map ss).length = slots.length := by simp
  have m3 : (es.map encE).length = es.length := by simp
  have mc : (c.map encCh).length = c.length := by simp
  have e0 : pathV ⟨locs, slots, es, vs⟩ b c = if (rightB ⟨locs, slots, es, vs⟩ && decide (b.length = slots.length)) = true then .tup [LSt ((fullP es c (b.map own1)).map (stepOf locs)), ii (((fullP es c (b.map own1)).length : Int) - 1), ii 0] else .tup [LSt [], ii 0, ii 1] := rfl
  rw [e0]
  clear e0
  change Pur cx _ [encLow' locs slots es vs, LIs b, LCs c] _
  change Pur cx _ [encLow' locs slots es vs] _ at R
  generalize rightB ⟨locs, slots, es, vs⟩ = ok at *
  have wno : Weaker (.tup [.v (.slice none 0 0), ii 0, ii 1]) (.tup [LSt [], ii 0, ii 1]) := Weaker.tup (.cons (Weaker.nil 3) (.cons (.refl _) (.cons (.refl _) .nil)))
  refine Pur.ofW (sem_calls' cx (fn := Try.f25) rfl rfl rfl rfl ?_)
  cases ok with
  | false =>
    clear rto rn
    repeat' first | refine Ops.tag rfl ?_ | (with_reducible first | refine OpsT.no' ?_) | (refine OpsT.go ?_; (conv => arg 7; whnf)) | (with_reducible first | refine Stp.orT ?_ | refine Stp.notF ?_) | refine Stp.pure rfl ?_ | refine PutK.mk' rfl ?_ | refine Ops.nil ?_ | ((with_reducible refine Look.id ?_); refine Look.auto ?_ (by repeat first | exact HGet.hit); try (conv => arg 7; whnf)) | ((with_reducible refine Side.id ?_); first | refine Side.auto ?_) | ((with_reducible refine Br.id ?_); first | (with_reducible first | refine br_true rfl ?_)) | ((with_reducible refine SemWp.id ?_); first | refine sem_seq ?_ | refine sem_region rfl ?_ | refine sem_cond rfl ?_ | refine sem_ret ?_) | ((with_reducible refine qThen.id ?_); first | refine qThen.go ?_ | refine qThen.ret ?_) | refine Stp.valS ?_ | refine Stp.look ?_ | refine Stp.call ?_ | refine Stp.eff ?_ | ((with_reducible refine CallWp.id ?_); first | refine Pur.call (R) ?_) | (refine newN (fun r hr => ?_); simp only [keys, List.nil_append, List.cons_append, List.map_cons, List.map_nil, List.mem_cons, List.not_mem_nil, not_or, or_false, not_false_eq_true] at hr) | ((with_reducible refine BodyR.id ?_); first | refine BodyR.ret ?_) | ((with_reducible refine ResG.id ?_); first | refine ResG.tmp rfl ?_ | refine ResG.nil ?_)
    exact Fin.weak wno
  | true =>
  by_cases hb : b.length = slots.length
  rotate_left
  · rw [decide_eq_false hb]
    clear rto rn
    repeat' first | refine Ops.tag rfl ?_ | ((with_reducible first | refine OpsT.yes' ?_); (conv => arg 7; whnf)) | (refine OpsT.go ?_; (conv => arg 7; whnf)) | (with_reducible first | refine Stp.orF ?_ | refine Stp.notT ?_) | ((with_reducible refine Stp.isNe ?_); first | refine Stp.neT ?_) | refine Stp.pure rfl ?_ | refine PutK.mk' rfl ?_ | refine Ops.nil ?_ | ((with_reducible refine Look.id ?_); refine Look.auto ?_ (by repeat first | exact HGet.hit); try (conv => arg 7; whnf)) | ((with_reducible refine Side.id ?_); first | refine Side.auto ?_) | ((with_reducible refine Br.id ?_); first | (with_reducible first | refine br_true rfl ?_)) | ((with_reducible refine SemWp.id ?_); first | refine sem_seq ?_ | refine sem_region rfl ?_ | refine sem_cond rfl ?_ | refine sem_ret ?_) | ((with_reducible refine qThen.id ?_); first | refine qThen.go ?_ | refine qThen.ret ?_) | refine Stp.valS ?_ | refine Stp.look ?_ | refine Stp.call ?_ | refine Stp.eff ?_ | ((with_reducible refine CallWp.id ?_); first | refine Pur.call (R) ?_) | (refine newN (fun r hr => ?_); simp only [keys, List.nil_append, List.cons_append, List.map_cons, List.map_nil, List.mem_cons, List.not_mem_nil, not_or, or_false, not_false_eq_true] at hr) | ((with_reducible refine BodyR.id ?_); first | refine BodyR.ret ?_) | ((with_reducible refine ResG.id ?_); first | refine ResG.tmp rfl ?_ | refine ResG.nil ?_)
    exact Fin.weak wno
  rw [decide_eq_true hb]
  obtain ⟨n1, n2, n3⟩ := rn rfl
  have n1 : 1 ≤ locs.length := n1
  have n2 : slots.length ≤ 6 := n2
  have n3 : es.length ≤ 200 := n3
  have rto := fun j hj => rto rfl (j := j) hj
  clear rn
  have J0 := PI.init (es := es) (c := c) n1 hb sb
  have g0 := getD_loc (l := locs) (k := 0) (n := 0) rfl (by omega)
  generalize hfull : fullP es c (b.map own1) = full at *
  repeat' first | refine Ops.tag rfl ?_ | ((with_reducible first | refine OpsT.yes' ?_); (conv => arg 7; whnf)) | (refine OpsT.go ?_; (conv => arg 7; whnf)) | (with_reducible first | refine Stp.orF ?_ | refine Stp.notT ?_) | ((with_reducible refine Stp.isNe ?_); first | refine Stp.neF ?_) | refine Stp.pure rfl ?_ | refine PutK.mk' rfl ?_ | refine Ops.nil ?_ | ((with_reducible refine Look.id ?_); refine Look.auto ?_ (by repeat first | exact HGet.hit); try (conv => arg 7; whnf)) | ((with_reducible refine Side.id ?_); first | refine Side.auto ?_) | ((with_reducible refine Br.id ?_); first | (with_reducible first | refine br_false rfl ?_)) | ((with_reducible refine SemWp.id ?_); first | refine sem_seq ?_ | refine sem_region rfl ?_ | refine sem_cond rfl ?_ | refine sem_block ?_ | refine sem_skip ?_) | ((with_reducible refine qThen.id ?_); first | refine qThen.go ?_) | refine Stp.valS ?_ | refine Stp.look ?_ | refine Stp.call ?_ | refine Stp.eff ?_ | ((with_reducible refine CallWp.id ?_); first | refine Pur.call (R) ?_) | (refine newN (fun r hr => ?_); simp only [keys, List.nil_append, List.cons_append, List.map_cons, List.map_nil, List.mem_cons, List.not_mem_nil, not_or, or_false, not_false_eq_true] at hr)
  refine sem_nil_own cx 10 2 rfl ?_
  intro rt hrt
  simp only [keys, List.map_cons, List.map_nil, List.mem_cons, List.not_mem_nil, not_or, or_false, not_false_eq_true] at hrt
  refine sem_loop cx (ι := Nat) (fun j => j ≤ b.length) (fun j => [(1, .sure, LIs b), (2, .sure, LCs c), (3, .sure, .ptr r 0), (9, .sure, ii 0), (11, .sure, ii j), (10, .sure, .list (.own rt 0) 2 (((b.take j).map own1).map encI))]) (fun j => [(rt, .tok j), (r, .cells [LLocs locs, LSs slots, LEs es, LVs vs] 53)]) (fun j => b.length - j) 0 (Nat.zero_le _) (by repeat' first | exact Sub.nil _ | refine Sub.auto ?_) (Subp.of_eq rfl) ?_
  intro j j1
  have ml : (((b.take j).map own1).map encI).length = j := by simp; omega
  by_cases hj : j < b.length
  · have g1 : (b.map encI).getD (j : Int).toNat default = encI (b.getD j gi0) := getD_int (n := j) rfl hj
    have t2 : (b.take (j + 1)).map own1 = (b.take j).map own1 ++ [own1 b[j]] := by rw [List.take_succ_eq_append_getElem hj, List.map_append]; rfl
    rw [getD_eq hj] at g1
    have sg := sb _ (List.getElem_mem hj)
    generalize b[j] = g at *
    have A := rAdd_spec g gi0 sg.ok sm0.ok (by have := sg.len; omega) (by decide)
    rw [toZ_gi0, Int.add_zero] at A
    have A' : Pur cx _ [encP g.neg g.l, .agg [bb false, .v (.slice none 0 0)]] (encI (own1 g)) := A.args (.cons (.refl _) (.cons weak0 .nil))
    change _ = encP g.neg g.l at g1
    clear rto J0 g0
    repeat' first | refine Ops.tag rfl ?_ | (refine OpsT.go ?_; (conv => arg 7; whnf)) | ((with_reducible refine Stp.isSum ?_); refine Stp.sum ?_) | ((with_reducible refine Stp.isDec ?_); first | refine Stp.decT ?_) | refine Stp.pure rfl ?_ | ((with_reducible refine PutK.isSet ?_); refine PutK.set (by repeat first | exact HsetIs.hit) ?_) | refine PutK.mk' rfl ?_ | refine Ops.nil ?_ | ((with_reducible refine Look.id ?_); refine Look.auto ?_ (by repeat first | exact HGet.hit); try (conv => arg 7; whnf)) | ((with_reducible refine Side.id ?_); first | refine Side.auto ?_) | ((with_reducible refine Br.id ?_); first | (with_reducible first | refine br_true rfl ?_)) | ((with_reducible refine SemWp.id ?_); first | refine sem_seq ?_ | refine sem_region rfl ?_ | refine sem_cond rfl ?_ | refine sem_block ?_ | refine sem_skip ?_) | ((with_reducible refine qThen.id ?_); first | refine qThen.go ?_) | ((with_reducible refine hinBlock.id ?_); first | refine hinBlock.go ?_) | ((with_reducible refine hround.id ?_); first | refine hround.go ?_) | refine Stp.valS ?_ | refine Stp.look ?_ | refine Stp.call ?_ | refine Stp.eff ?_ | ((with_reducible refine CallWp.id ?_); first | refine Pur.call (A') ?_) | rw [g1]
    refine Fin.mk ⟨j + 1, by omega, by omega, Sub.cons rfl rfl (Sub.cons rfl rfl (Sub.cons rfl rfl (Sub.cons rfl rfl (Sub.cons rfl rfl (Sub.cons rfl (by rw [t2, List.map_append]; rfl) (Sub.nil _)))))), ?_⟩
    exact Subp.of_eq rfl
  have : j = b.length := by omega
  subst this
  rw [List.take_length]
  rw [List.take_length] at ml
  refine sem_wkFr cx 10 (LIs (b.map own1)) rfl (Weaker.tok _ _ _) ?_
  generalize b.map own1 = x0 at *
  repeat' first | refine Ops.tag rfl ?_ | (refine OpsT.go ?_; (conv => arg 7; whnf)) | ((with_reducible refine Stp.isDec ?_); first | refine Stp.decF ?_) | refine Stp.pure rfl ?_ | refine Ops.nil ?_ | ((with_reducible refine Look.id ?_); refine Look.auto ?_ (by repeat first | exact HGet.hit | apply HGet.miss (by omega)); try (conv => arg 7; whnf)) | ((with_reducible refine Side.id ?_); first | refine Side.auto ?_) | ((with_reducible refine Br.id ?_); first | (with_reducible first | refine br_false rfl ?_)) | ((with_reducible refine SemWp.id ?_); first | refine sem_seq ?_ | refine sem_region rfl ?_ | refine sem_cond rfl ?_ | refine sem_block ?_ | refine sem_exit ?_) | ((with_reducible refine qThen.id ?_); first | refine qThen.go ?_) | refine Stp.valS ?_ | refine Stp.look ?_ | rw [g0]
  refine sem_full_own cx 12 3 (by simp) rfl ?_
  intro rq hrq
  simp only [keys, List.map_cons, List.map_nil, List.mem_cons, List.not_mem_nil, not_or, or_false, not_false_eq_true] at hrq
  refine sem_loop4 cx (fun i a x o => PI locs.length slots.length es c full i a x o) (fun i a x o => [(2, .sure, LCs c), (3, .sure, .ptr r 0), (9, .sure, ii a), (10, .sure, LIs x), (12, .sure, .list (.own rq 0) 3 ((o.map (stepOf locs)).map encS)), (13, .sure, ii i)]) (fun i a x o => [(rq, .tok (i + 1)), (r, .cells [LLocs locs, LSs slots, LEs es, LVs vs] 53)]) (fun i => c.length - i) 0 0 x0 [(0, x0)] J0 (Sub.cons rfl rfl (Sub.cons rfl rfl (Sub.cons rfl rfl (Sub.cons rfl rfl (Sub.cons rfl rfl (Sub.cons rfl rfl (Sub.nil _))))))) (Subp.take (t := ?_) ?_) ?_
  rotate_left
  (repeat first | exact HTake.nil | (apply HTake.cons; focus (repeat first | exact HPick.hit | apply HPick.miss)))
  intro i a x o J
  have lo : ((o.map (stepOf locs)).map encS).length = i + 1 := by rw [List.length_map, List.length_map]; exact J.lo
  by_cases hi : i < c.length
  · have g1 := getD_ch (l := c) (k := i) (n := i) rfl hi
    have sk := sc _ (List.getElem_mem hi)
    have JN := J.none hi
    have JS := fun t y => J.some hi (t := t) (y := y)
    have lx := J.lx
    have sx := J.sm
    generalize c[i] = k at *
    obtain ⟨ke, w⟩ := k
    change _ = encCh' ke w at g1
    have stop : full = o → Fin (∃ z, HEnd.ret (tupOf [.list (.own rq 0) 3 ((o.map (stepOf locs)).map encS), ii i, ii 0]) = .ret z ∧ Weaker z (.tup [LSt (full.map (stepOf locs)), ii ((full.length : Int) - 1), ii 0])) := fun h => by
      have e : ((full.length : Nat) : Int) - 1 = i := by rw [h, J.lo]; omega
      rw [e, h]
      exact Fin.weak (Weaker.tup (.cons (Weaker.tok _ _ _) (.cons (.refl _) (.cons (.refl _) .nil))))
    by_cases k0 : 0 ≤ ke
    rotate_left
    · have stop := stop (JN (nxt_lo k0))
      clear JN JS J J0 rto hfull
      repeat' first | refine Ops.tag rfl ?_ | (with_reducible first | refine OpsT.no' ?_) | (refine OpsT.go ?_; (conv => arg 7; whnf)) | (with_reducible first | refine Stp.orT ?_) | ((with_reducible refine Stp.isDec ?_); first | refine Stp.decT ?_) | refine Stp.pure rfl ?_ | refine PutK.mk' rfl ?_ | refine Ops.nil ?_ | ((with_reducible refine Side.id ?_); first | refine Side.auto ?_) | ((with_reducible refine Br.id ?_); first | (with_reducible first | refine br_true rfl ?_)) | ((with_reducible refine SemWp.id ?_); first | refine sem_seq ?_ | refine sem_region rfl ?_ | refine sem_cond rfl ?_ | refine sem_block ?_ | refine sem_ret ?_ | refine sem_skip ?_) | ((with_reducible refine qThen.id ?_); first | refine qThen.go ?_ | refine qThen.ret ?_) | ((with_reducible refine hinBlock.id ?_); first | refine hinBlock.ret ?_) | ((with_reducible refine hround.id ?_); first | refine hround.ret ?_) | refine Stp.valS ?_ | ((with_reducible refine BodyR.id ?_); first | refine BodyR.ret ?_) | ((with_reducible refine ResG.id ?_); first | refine ResG.tmp rfl ?_ | refine ResG.nil ?_) | rw [g1]
      exact stop
    by_cases k1 : ke < (es.length : Int)
    rotate_left
    · have stop := stop (JN (nxt_hi k1))
      clear JN JS J J0 rto hfull
      repeat' first | refine Ops.tag rfl ?_ | ((with_reducible first | refine OpsT.yes' ?_); (conv => arg 7; whnf)) | (with_reducible first | refine OpsT.no' ?_) | (refine OpsT.go ?_; (conv => arg 7; whnf)) | (with_reducible first | refine Stp.orF ?_ | refine Stp.orT ?_) | ((with_reducible refine Stp.isDec ?_); first | refine Stp.decT ?_ | refine Stp.decF ?_) | refine Stp.pure rfl ?_ | refine PutK.mk' rfl ?_ | refine Ops.nil ?_ | ((with_reducible refine Look.id ?_); refine Look.auto ?_ (by repeat first | exact HGet.hit | apply HGet.miss (by omega)); try (conv => arg 7; whnf)) | ((with_reducible refine Side.id ?_); first | refine Side.auto ?_) | ((with_reducible refine Br.id ?_); first | (with_reducible first | refine br_true rfl ?_)) | ((with_reducible refine SemWp.id ?_); first | refine sem_seq ?_ | refine sem_region rfl ?_ | refine sem_cond rfl ?_ | refine sem_block ?_ | refine sem_ret ?_ | refine sem_skip ?_) | ((with_reducible refine qThen.id ?_); first | refine qThen.go ?_ | refine qThen.ret ?_) | ((with_reducible refine hinBlock.id ?_); first | refine hinBlock.ret ?_) | ((with_reducible refine hround.id ?_); first | refine hround.ret ?_) | refine Stp.valS ?_ | refine Stp.look ?_ | ((with_reducible refine BodyR.id ?_); first | refine BodyR.ret ?_) | ((with_reducible refine ResG.id ?_); first | refine ResG.tmp rfl ?_ | refine ResG.nil ?_) | rw [g1]
      exact stop
    obtain ⟨j, rfl⟩ := Int.eq_ofNat_of_zero_le k0
    have hj : j < es.length := by omega
    have g2 := getD_edge (l := es) (k := j) (n := j) rfl hj
    have e := nxt_eq (es := es) (c := ⟨j, w⟩) (at' := a) (x := x) rfl hj
    have to := rto j hj
    have se := he _ (List.getElem_mem hj)
    change 0 ≤ es[j].to ∧ es[j].to < (locs.length : Int) at to
    generalize es[j] = ed at *
    by_cases k2 : ed.fr = a
    rotate_left
    · have stop := stop (JN (by rw [e, if_neg fun h => k2 h.1]))
      clear JN JS J J0 rto hfull
      repeat' first | refine Ops.tag rfl ?_ | ((with_reducible first | refine OpsT.yes' ?_); (conv => arg 7; whnf)) | (refine OpsT.go ?_; (conv => arg 7; whnf)) | (with_reducible first | refine Stp.orF ?_) | ((with_reducible refine Stp.isDec ?_); first | refine Stp.decT ?_ | refine Stp.decF ?_) | ((with_reducible refine Stp.isNe ?_); first | refine Stp.neT ?_) | refine Stp.pure rfl ?_ | refine Ops.nil ?_ | ((with_reducible refine Look.id ?_); refine Look.auto ?_ (by repeat first | exact HGet.hit | apply HGet.miss (by omega)); try (conv => arg 7; whnf)) | ((with_reducible refine Side.id ?_); first | refine Side.auto ?_) | ((with_reducible refine Br.id ?_); first | (with_reducible first | refine br_true rfl ?_)) | ((with_reducible refine SemWp.id ?_); first | refine sem_seq ?_ | refine sem_region rfl ?_ | refine sem_cond rfl ?_ | refine sem_block ?_ | refine sem_ret ?_ | refine sem_skip ?_) | ((with_reducible refine qThen.id ?_); first | refine qThen.go ?_ | refine qThen.ret ?_) | ((with_reducible refine hinBlock.id ?_); first | refine hinBlock.ret ?_) | ((with_reducible refine hround.id ?_); first | refine hround.ret ?_) | refine Stp.valS ?_ | refine Stp.look ?_ | ((with_reducible refine BodyR.id ?_); first | refine BodyR.ret ?_) | ((with_reducible refine ResG.id ?_); first | refine ResG.tmp rfl ?_ | refine ResG.nil ?_) | rw [g1] | rw [g2]
      exact stop
    have G := rGo_spec (by omega) (by omega) ed x w se sx sk.2 (by omega) sk.1
    have gy := go_y (i := i) (by omega) se sx sk.2
    have ev : goV ed x w = if goB ed x w = true then .tup [LIs (ed.s.map fun a => ofZ (valZ a x w)), bb true] else .tup [LIs [], bb false] := rfl
    rw [ev] at G
    change Pur cx _ [encE' ed.fr ed.to ed.m ed.g ed.s ed.p, _, _] _ at G
    cases hg : goB ed x w with
    | false =>
      rw [hg] at G
      have stop := stop (JN (by rw [e, if_neg fun h => by rw [hg] at h; cases h.2]))
      clear JN JS J J0 rto hfull gy
      repeat' first | refine Ops.tag rfl ?_ | ((with_reducible first | refine OpsT.yes' ?_); (conv => arg 7; whnf)) | (refine OpsT.go ?_; (conv => arg 7; whnf)) | (with_reducible first | refine Stp.orF ?_ | refine Stp.notF ?_) | ((with_reducible refine Stp.isDec ?_); first | refine Stp.decT ?_ | refine Stp.decF ?_) | ((with_reducible refine Stp.isNe ?_); first | refine Stp.neF ?_) | refine Stp.pure rfl ?_ | refine Ops.nil ?_ | (refine DOps.cons rfl rfl ?_; (conv => arg 7; whnf)) | refine DStp.pure rfl ?_ | refine PutD.mk' rfl ?_ | refine DOps.nil rfl ?_ | ((with_reducible refine Look.id ?_); refine Look.auto ?_ (by repeat first | exact HGet.hit | apply HGet.miss (by omega)); try (conv => arg 7; whnf)) | ((with_reducible refine Side.id ?_); first | refine Side.auto ?_) | ((with_reducible refine Br.id ?_); first | (with_reducible first | refine br_true rfl ?_ | refine br_false rfl ?_)) | ((with_reducible refine SemWp.id ?_); first | refine sem_seq ?_ | refine sem_region rfl ?_ | refine sem_cond rfl ?_ | refine sem_block ?_ | refine sem_ret ?_ | refine sem_skip ?_ | refine sem_draw ?_) | ((with_reducible refine qThen.id ?_); first | refine qThen.go ?_ | refine qThen.ret ?_) | ((with_reducible refine hinBlock.id ?_); first | refine hinBlock.ret ?_) | ((with_reducible refine hround.id ?_); first | refine hround.ret ?_) | refine Stp.valS ?_ | refine Stp.look ?_ | refine DStp.valS ?_ | refine DStp.look ?_ | refine DStp.call ?_ | ((with_reducible refine QAsk.id ?_); first | (refine Pur.ask (G) ?_ ?_; focus (intro h; first | exact rfl))) | ((with_reducible refine DrawReg.id ?_); refine drawQ' cx (by decide +kernel) rfl ?_) | ((with_reducible refine BodyR.id ?_); first | refine BodyR.ret ?_) | ((with_reducible refine ResG.id ?_); first | refine ResG.tmp rfl ?_ | refine ResG.nil ?_) | rw [g1] | rw [g2]
      exact stop
    | true =>
      rw [hg] at G e
      rw [if_pos ⟨k2, rfl⟩] at e
      obtain ⟨gy1, gy2, gy3⟩ := gy hg
      have J2 := JS _ _ e to.1 to.2 (by omega) gy2 gy3
      have ot : (o ++ [(ed.to, ed.s.map fun a => ofZ (valZ a x w))]).map (stepOf locs) = o.map (stepOf locs) ++ [⟨(locs.getD ed.to.toNat locD).path, (locs.getD ed.to.toNat locD).point, ed.s.map fun a => ofZ (valZ a x w)⟩] := by rw [List.map_append]; rfl
      generalize (ed.s.map fun a => ofZ (valZ a x w)) = y at *
      obtain ⟨tn, ht⟩ := Int.eq_ofNat_of_zero_le to.1
      have g3 := getD_loc (l := locs) (k := ed.to) (n := tn) ht (by omega)
      rw [ht, Int.toNat_natCast] at ot
      generalize locs.getD tn locD = q at *
      clear JN JS J J0 rto hfull gy1 gy2 gy3 e hg stop
      repeat' first | refine Ops.tag rfl ?_ | ((with_reducible first | refine OpsT.yes' ?_); (conv => arg 7; whnf)) | (refine OpsT.go ?_; (conv => arg 7; whnf)) | (with_reducible first | refine Stp.orF ?_ | refine Stp.notT ?_) | ((with_reducible refine Stp.isSum ?_); refine Stp.sum ?_) | ((with_reducible refine Stp.isDec ?_); first | refine Stp.decT ?_ | refine Stp.decF ?_) | ((with_reducible refine Stp.isNe ?_); first | refine Stp.neF ?_) | refine Stp.pure rfl ?_ | ((with_reducible refine PutK.isSet ?_); refine PutK.set (by repeat first | exact HsetIs.hit) ?_) | refine PutK.mk' rfl ?_ | refine Ops.nil ?_ | (refine DOps.cons rfl rfl ?_; (conv => arg 7; whnf)) | refine DStp.pure rfl ?_ | refine PutD.mk' rfl ?_ | refine DOps.nil rfl ?_ | ((with_reducible refine Look.id ?_); refine Look.auto ?_ (by repeat first | exact HGet.hit | apply HGet.miss (by omega)); try (conv => arg 7; whnf)) | ((with_reducible refine Side.id ?_); first | refine Side.auto ?_) | ((with_reducible refine Br.id ?_); first | (with_reducible first | refine br_true rfl ?_ | refine br_false rfl ?_)) | ((with_reducible refine SemWp.id ?_); first | refine sem_seq ?_ | refine sem_region rfl ?_ | refine sem_cond rfl ?_ | refine sem_block ?_ | refine sem_skip ?_ | refine sem_draw ?_) | ((with_reducible refine qThen.id ?_); first | refine qThen.go ?_) | ((with_reducible refine hinBlock.id ?_); first | refine hinBlock.go ?_) | ((with_reducible refine hround.id ?_); first | refine hround.go ?_) | refine Stp.valS ?_ | refine Stp.look ?_ | refine Stp.eff ?_ | refine DStp.valS ?_ | refine DStp.look ?_ | refine DStp.call ?_ | ((with_reducible refine QAsk.id ?_); first | (refine Pur.ask (G) ?_ ?_; focus (intro h; first | exact rfl))) | ((with_reducible refine DrawReg.id ?_); refine drawQ' cx (by decide +kernel) rfl ?_) | rw [g1] | rw [g2] | rw [g3]
      refine Fin.mk ⟨i + 1, ed.to, y, o ++ [(ed.to, y)], J2, by omega, Sub.cons rfl rfl (Sub.cons rfl rfl (Sub.cons rfl rfl (Sub.cons rfl rfl (Sub.cons rfl (by rw [ht, ot, List.map_append]; rfl) (Sub.cons rfl rfl (Sub.nil _)))))), Subp.take (t := ?_) ?_⟩
      rotate_left
      (repeat first | exact HTake.nil | (apply HTake.cons; focus (repeat first | exact HPick.hit | apply HPick.miss)))
  · have : i = c.length := by have := J.le; omega
    have hf := J.fin this
    subst this
    have e : ((full.length : Nat) : Int) - 1 = (c.map encCh).length := by rw [hf, J.lo, List.length_map]; omega
    rw [e]
    clear J J0 rto hfull
    subst hf
    repeat' first | refine Ops.tag rfl ?_ | (refine OpsT.go ?_; (conv => arg 7; whnf)) | ((with_reducible refine Stp.isDec ?_); first | refine Stp.decF ?_) | refine Stp.pure rfl ?_ | refine Ops.nil ?_ | ((with_reducible refine Br.id ?_); first | (with_reducible first | refine br_false rfl ?_)) | ((with_reducible refine SemWp.id ?_); first | refine sem_seq ?_ | refine sem_region rfl ?_ | refine sem_cond rfl ?_ | refine sem_exit ?_ | refine sem_ret ?_) | ((with_reducible refine qThen.id ?_); first | refine qThen.go ?_) | ((with_reducible refine BodyR.id ?_); first | refine BodyR.ret ?_) | ((with_reducible refine ResG.id ?_); first | refine ResG.tmp rfl ?_ | refine ResG.nil ?_)
    exact Fin.weak (Weaker.tup (.cons (Weaker.tok _ _ _) (.cons (.refl _) (.cons (.refl _) .nil))))
end Go.Proofs.Hk

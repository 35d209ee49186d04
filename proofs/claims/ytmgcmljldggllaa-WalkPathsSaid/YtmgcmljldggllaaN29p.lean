import Derived.Test.YtmgcmljldggllaaN26
import Derived.Test.YtmgcmljldggllaaN22
import Derived.Test.YtmgcmljldggllaaN23
set_option linter.unusedSimpArgs false
set_option linter.unusedVariables false
namespace Go.Proofs.Hk
open Go Go.Proofs

def nxt (es : List GE) (c : GC) (at' : Int) (x : List GI) : Option (Int × List GI) :=
  if h : 0 ≤ c.e ∧ c.e < es.length then
    (if (es[c.e.toNat]'(by omega)).fr = at' ∧ goB (es[c.e.toNat]'(by omega)) x c.w = true then some ((es[c.e.toNat]'(by omega)).to, (es[c.e.toNat]'(by omega)).s.map fun a => ofZ (valZ a x c.w)) else none)
  else none
def runP (es : List GE) : List GC → Int → List GI → List (Int × List GI)
  | [], _, _ => []
  | c :: cs, at', x => match nxt es c at' x with
    | none => []
    | some (t, y) => (t, y) :: runP es cs t y
def stepOf (locs : List GLoc) (p : Int × List GI) : GS := ⟨(locs.getD p.1.toNat locD).path, (locs.getD p.1.toNat locD).point, p.2⟩
def fullP (es : List GE) (c : List GC) (x0 : List GI) : List (Int × List GI) := (0, x0) :: runP es c 0 x0
def pathV (l : GLow) (b : List GI) (c : List GC) : HV :=
  if (rightB l && decide (b.length = l.slots.length)) = true then .tup [LSt ((fullP l.es c (b.map own1)).map (stepOf l.locs)), ii (((fullP l.es c (b.map own1)).length : Int) - 1), ii 0] else .tup [LSt [], ii 0, ii 1]

theorem own1_ofZ (z : Int) : own1 (ofZ z) = ofZ z := by unfold own1; rw [toZ_ofZ]
theorem own1_own1 (g : GI) : own1 (own1 g) = own1 g := own1_ofZ _
theorem own_sm {g : GI} (h : Sm g) : SmN 40 (own1 g) := by
  unfold own1
  exact ⟨nl_lim _, nl_len_lt h.lt⟩
theorem own_map (l : List GI) : (l.map own1).map own1 = l.map own1 := by
  rw [List.map_map]
  exact List.map_congr_left fun g _ => own1_own1 g

structure PI (n k : Nat) (es : List GE) (c : List GC) (full : List (Int × List GI)) (i : Nat) (at' : Int) (x : List GI) (o : List (Int × List GI)) : Prop where
  le : i ≤ c.length
  lo : o.length = i + 1
  eq : full = o ++ runP es (c.drop i) at' x
  a0 : 0 ≤ at'
  a1 : at' < n
  lx : x.length = k
  sm : ∀ g ∈ x, SmN (40 + 41 * i) g
  own : x.map own1 = x
theorem PI.init {n k : Nat} {es : List GE} {c : List GC} {b : List GI} (hn : 1 ≤ n) (hb : b.length = k) (sb : ∀ g ∈ b, Sm g) : PI n k es c (fullP es c (b.map own1)) 0 0 (b.map own1) [(0, b.map own1)] :=
  ⟨Nat.zero_le _, rfl, by rw [List.drop_zero]; rfl, Int.le_refl _, by omega, by rw [List.length_map, hb], fun g hg => by
    obtain ⟨y, hy, rfl⟩ := List.mem_map.1 hg
    exact own_sm (sb y hy), own_map b⟩
section
variable {n k : Nat} {es : List GE} {c : List GC} {full : List (Int × List GI)} {i : Nat} {at' : Int} {x : List GI} {o : List (Int × List GI)}
theorem PI.fin (h : PI n k es c full i at' x o) (hi : i = c.length) : full = o := by
  have := h.eq
  rw [hi, List.drop_length] at this
  simpa [runP] using this
theorem PI.none (h : PI n k es c full i at' x o) (hi : i < c.length) (e : nxt es c[i] at' x = none) : full = o := by
  have := h.eq
  rw [List.drop_eq_getElem_cons hi, runP, e] at this
  simpa using this
theorem PI.some (h : PI n k es c full i at' x o) (hi : i < c.length) {t : Int} {y : List GI} (e : nxt es c[i] at' x = some (t, y)) (h0 : 0 ≤ t) (h1 : t < n) (hy : y.length = k) (sy : ∀ g ∈ y, SmN (40 + 41 * (i + 1)) g) (oy : y.map own1 = y) : PI n k es c full (i + 1) t y (o ++ [(t, y)]) :=
  ⟨by omega, by rw [List.length_append, h.lo]; rfl, by
    have := h.eq
    rw [List.drop_eq_getElem_cons hi, runP, e] at this
    rw [this]; simp, h0, h1, hy, sy, oy⟩
end
theorem nxt_lo {es : List GE} {c : GC} {at' : Int} {x : List GI} (h : ¬ 0 ≤ c.e) : nxt es c at' x = none := by
  unfold nxt; rw [dif_neg (by omega)]
theorem nxt_hi {es : List GE} {c : GC} {at' : Int} {x : List GI} (h : ¬ c.e < es.length) : nxt es c at' x = none := by
  unfold nxt; rw [dif_neg (by omega)]
theorem nxt_eq {es : List GE} {c : GC} {at' : Int} {x : List GI} {j : Nat} (hc : c.e = j) (hj : j < es.length) : nxt es c at' x = if es[j].fr = at' ∧ goB es[j] x c.w = true then some (es[j].to, es[j].s.map fun a => ofZ (valZ a x c.w)) else none := by
  unfold nxt
  rw [dif_pos (by omega)]
  have : c.e.toNat = j := by omega
  subst this
  rfl
/-- What an edge that goes gives. -/
theorem go_y {e : GE} {x w : List GI} {i : Nat} (hi : 40 + 41 * i ≤ 10000) (he : SmE e) (hx : ∀ g ∈ x, SmN (40 + 41 * i) g) (hw : ∀ g ∈ w, Sm g) (hg : goB e x w = true) :
    (e.s.map fun a => ofZ (valZ a x w)).length = x.length ∧ (∀ g ∈ e.s.map fun a => ofZ (valZ a x w), SmN (40 + 41 * (i + 1)) g) ∧ (e.s.map fun a => ofZ (valZ a x w)).map own1 = e.s.map fun a => ofZ (valZ a x w) := by
  refine ⟨?_, fun g hg => ?_, ?_⟩
  · simp only [goB, Bool.and_eq_true, decide_eq_true_eq] at hg
    rw [List.length_map]
    exact hg.1.1.1
  · obtain ⟨a, ha, rfl⟩ := List.mem_map.1 hg
    have b := valZ_bnd (by omega) hi (he.s a ha) hx hw
    have l := nl_len_lt (B82 b (by omega))
    exact ⟨nl_lim _, Nat.le_trans l (by omega)⟩
  · rw [List.map_map]
    exact List.map_congr_left fun a _ => own1_ofZ _
/-- What a right edge leads to is there. -/
theorem right_to {l : GLow} (h : rightB l = true) {j : Nat} (hj : j < l.es.length) : 0 ≤ l.es[j].to ∧ l.es[j].to < l.locs.length := by
  simp only [rightB, Bool.and_eq_true, Bool.not_eq_true', List.any_eq_false] at h
  have := h.1.2 _ (List.getElem_mem hj)
  simp only [badE, Bool.or_eq_true, not_or, Bool.not_eq_true', Bool.not_eq_false, inB, Bool.and_eq_true, decide_eq_true_eq] at this
  exact this.1.1.1.1.2
theorem right_n {l : GLow} (h : rightB l = true) : 1 ≤ l.locs.length ∧ l.slots.length ≤ 6 ∧ l.es.length ≤ 200 := by
  simp only [rightB, Bool.and_eq_true, decide_eq_true_eq] at h
  omega
end Go.Proofs.Hk

set_option linter.unusedSimpArgs false
set_option linter.unusedVariables false
namespace Go.Proofs.Hk
open Go Go.Proofs

set_option maxHeartbeats 8000000 in
theorem Path_spec (l : GLow) (b : List GI) (c : List GC) (h : SmLow l) (hp : ∀ q ∈ l.locs, q.path.length ≤ 17592186044416) (sb : ∀ g ∈ b, Sm g) (nb : b.length ≤ 60) (nc : c.length ≤ 100) (sc : ∀ k ∈ c, k.w.length ≤ 60 ∧ ∀ g ∈ k.w, Sm g) :
    Pur cx 24 [encLow l, LIs b, LCs c] (pathV l b c) := by
  have R := Right_spec l h
  have O := own_spec (n := 40) (by omega) b (fun g hg => (sb g hg).to (by omega)) nb
  have rto := @right_to l
  have rn := @right_n l
  have S := fun a x k hk ha hn hx nx r1 r2 r3 h12 h13 h23 => step_spec l a x (k := k) hk ha hn hp hx nx r1 r2 r3 h12 h13 h23
  have he : ∀ e ∈ l.es, SmE e := h.es
  obtain ⟨locs, slots, es, vs⟩ := l
  have S : ∀ (a : Int) (x : List GI) (k : Nat), k ≤ 10000 → 0 ≤ a → a < (locs.length : Int) → (∀ g ∈ x, SmN k g) → x.length ≤ 60 → ∀ r1 r2 r3 : Nat, r1 ≠ r2 → r1 ≠ r3 → r2 ≠ r3 → HCalls cx.P 49 [.ptr r1 0, .ptr r2 0, .ptr r3 0] [(r1, .cells [LLocs locs, LSs slots, LEs es, LVs vs] 53), (r2, .cells [ii a] 3), (r3, .cells [LIs x] 37)] fun e st => e = .ret (encS' (locs.getD a.toNat locD).path (locs.getD a.toNat locD).point (x.map own1)) ∧ st = [(r1, .cells [LLocs locs, LSs slots, LEs es, LVs vs] 53), (r2, .cells [ii a] 3), (r3, .cells [LIs x] 37)] := S
  have mb : (b.map encI).length = b.length := by simp
  have m2 : (slots.map ss).length = slots.length := by simp
  have m3 : (es.map encE).length = es.length := by simp
  have mc : (c.map encCh).length = c.length := by simp
  have e0 : pathV ⟨locs, slots, es, vs⟩ b c = if (rightB ⟨locs, slots, es, vs⟩ && decide (b.length = slots.length)) = true then .tup [LSt ((fullP es c (b.map own1)).map (stepOf locs)), ii (((fullP es c (b.map own1)).length : Int) - 1), ii 0] else .tup [LSt [], ii 0, ii 1] := rfl
  rw [e0]
  clear e0
  change Pur cx _ [encLow' locs slots es vs, LIs b, LCs c] _
  change Pur cx _ [encLow' locs slots es vs] _ at R
  generalize rightB ⟨locs, slots, es, vs⟩ = ok at *
  have wno : Weaker (.tup [.v (.slice none 0 0), ii 0, ii 1]) (.tup [LSt [], ii 0, ii 1]) := Weaker.tup (.cons (Weaker.nil 3) (.cons (.refl _) (.cons (.refl _) .nil)))
  refine Pur.ofW (sem_calls' cx (fn := Try.f24) rfl rfl rfl rfl ?_)
  cases ok with
  | false =>
    clear rto rn S
    repeat' first | refine Ops.tag rfl ?_ | (with_reducible first | refine OpsT.no' ?_) | (refine OpsT.go ?_; (conv => arg 7; whnf)) | (with_reducible first | refine Stp.orT ?_ | refine Stp.notF ?_) | refine Stp.pure rfl ?_ | refine PutK.mk' rfl ?_ | refine Ops.nil ?_ | ((with_reducible refine Look.id ?_); refine Look.auto ?_ (by repeat first | exact HGet.hit); try (conv => arg 7; whnf)) | ((with_reducible refine Side.id ?_); first | refine Side.auto ?_) | ((with_reducible refine Br.id ?_); first | (with_reducible first | refine br_true rfl ?_)) | ((with_reducible refine SemWp.id ?_); first | refine sem_seq ?_ | refine sem_region rfl ?_ | refine sem_cond rfl ?_ | refine sem_ret ?_ | refine sem_scope ?_) | ((with_reducible refine qThen.id ?_); first | refine qThen.go ?_ | refine qThen.ret ?_) | refine Stp.valS ?_ | refine Stp.look ?_ | refine Stp.call ?_ | refine Stp.eff ?_ | ((with_reducible refine CallWp.id ?_); first | refine Pur.call (R) ?_) | (refine newN (fun r hr => ?_); simp only [keys, List.nil_append, List.cons_append, List.map_cons, List.map_nil, List.mem_cons, List.not_mem_nil, not_or, or_false, not_false_eq_true] at hr) | ((with_reducible refine BodyR.id ?_); first | refine BodyR.ret ?_) | ((with_reducible refine ResG.id ?_); first | refine ResG.tmp rfl ?_ | refine ResG.nil ?_)
    exact Fin.weak wno
  | true =>
  by_cases hb : b.length = slots.length
  rotate_left
  · rw [decide_eq_false hb]
    clear rto rn S
    repeat' first | refine Ops.tag rfl ?_ | ((with_reducible first | refine OpsT.yes' ?_); (conv => arg 7; whnf)) | (refine OpsT.go ?_; (conv => arg 7; whnf)) | (with_reducible first | refine Stp.orF ?_ | refine Stp.notT ?_) | ((with_reducible refine Stp.isNe ?_); first | refine Stp.neT ?_) | refine Stp.pure rfl ?_ | refine PutK.mk' rfl ?_ | refine Ops.nil ?_ | ((with_reducible refine Look.id ?_); refine Look.auto ?_ (by repeat first | exact HGet.hit); try (conv => arg 7; whnf)) | ((with_reducible refine Side.id ?_); first | refine Side.auto ?_) | ((with_reducible refine Br.id ?_); first | (with_reducible first | refine br_true rfl ?_)) | ((with_reducible refine SemWp.id ?_); first | refine sem_seq ?_ | refine sem_region rfl ?_ | refine sem_cond rfl ?_ | refine sem_ret ?_ | refine sem_scope ?_) | ((with_reducible refine qThen.id ?_); first | refine qThen.go ?_ | refine qThen.ret ?_) | refine Stp.valS ?_ | refine Stp.look ?_ | refine Stp.call ?_ | refine Stp.eff ?_ | ((with_reducible refine CallWp.id ?_); first | refine Pur.call (R) ?_) | (refine newN (fun r hr => ?_); simp only [keys, List.nil_append, List.cons_append, List.map_cons, List.map_nil, List.mem_cons, List.not_mem_nil, not_or, or_false, not_false_eq_true] at hr) | ((with_reducible refine BodyR.id ?_); first | refine BodyR.ret ?_) | ((with_reducible refine ResG.id ?_); first | refine ResG.tmp rfl ?_ | refine ResG.nil ?_)
    exact Fin.weak wno
  rw [decide_eq_true hb]
  obtain ⟨n1, n2, n3⟩ := rn rfl
  have n1 : 1 ≤ locs.length := n1
  have n2 : slots.length ≤ 6 := n2
  have n3 : es.length ≤ 200 := n3
  have rto := fun j hj => rto rfl (j := j) hj
  clear rn
  have J0 := PI.init (es := es) (c := c) n1 hb sb
  have S0 := S 0 (b.map own1) 40 (by omega) (by omega) (by show (0 : Int) < locs.length; omega) J0.sm (by rw [List.length_map]; omega)
  rw [own_map] at S0
  generalize hfull : fullP es c (b.map own1) = full at *
  generalize b.map own1 = x0 at *
  repeat' first | refine Ops.tag rfl ?_ | ((with_reducible first | refine OpsT.yes' ?_); (conv => arg 7; whnf)) | (refine OpsT.go ?_; (conv => arg 7; whnf)) | (with_reducible first | refine Stp.orF ?_ | refine Stp.notT ?_) | ((with_reducible refine Stp.isNe ?_); first | refine Stp.neF ?_) | refine Stp.pure rfl ?_ | ((with_reducible refine PutK.isSet ?_); refine PutK.set (by repeat first | exact HsetIs.hit | apply HsetIs.miss (by omega)) ?_) | refine PutK.mk' rfl ?_ | refine Ops.nil ?_ | ((with_reducible refine Look.id ?_); refine Look.auto ?_ (by repeat first | exact HGet.hit | apply HGet.miss (by omega)); try (conv => arg 7; whnf)) | ((with_reducible refine Side.id ?_); first | refine Side.auto ?_) | ((with_reducible refine Br.id ?_); first | (with_reducible first | refine br_false rfl ?_)) | ((with_reducible refine SemWp.id ?_); first | refine sem_seq ?_ | refine sem_region rfl ?_ | refine sem_cond rfl ?_ | refine sem_block ?_ | refine sem_skip ?_ | refine sem_label ?_ | refine sem_scope ?_) | ((with_reducible refine qThen.id ?_); first | refine qThen.go ?_) | refine Stp.valS ?_ | refine Stp.look ?_ | refine Stp.call ?_ | refine Stp.eff ?_ | ((with_reducible refine CallWp.id ?_); first | refine Pur.call (R) ?_ | refine Pur.call (O) ?_ | (refine callT cx (S0 _ _ _ (by omega) (by omega) (by omega)) (by repeat first | exact HTake.nil | (apply HTake.cons; focus (repeat first | exact HPick.hit | apply HPick.miss))) ?_; (conv => whnf))) | (refine newN (fun r hr => ?_); simp only [keys, List.nil_append, List.cons_append, List.map_cons, List.map_nil, List.mem_cons, List.not_mem_nil, not_or, or_false, not_false_eq_true] at hr) | ((with_reducible refine Upd.id ?_); first | (refine Upd.lit rfl ?_; (conv => whnf)))
  rename_i rb hrb ra hra
  refine sem_full_own cx 12 3 (by simp) rfl ?_
  intro rq hrq
  simp only [keys, List.map_cons, List.map_nil, List.mem_cons, List.not_mem_nil, not_or, or_false, not_false_eq_true] at hrq
  refine sem_loop4 cx (fun i a x o => PI locs.length slots.length es c full i a x o) (fun i a x o => [(3, .sure, .ptr rb 0), (9, .sure, .ptr ra 0), (10, .sure, .ptr r 0), (11, .sure, .fn (.func 49) [] [.ptr rb 0, .ptr ra 0, .ptr r 0]), (12, .sure, .list (.own rq 0) 3 ((o.map (stepOf locs)).map encS)), (13, .sure, ii i), (35, .sure, LCs c), (36, .sure, ii (c.map encCh).length), (37, .sure, ii i)]) (fun i a x o => [(rq, .tok (i + 1)), (rb, .cells [LLocs locs, LSs slots, LEs es, LVs vs] 53), (ra, .cells [ii a] 3), (r, .cells [LIs x] 37)]) (fun i => c.length - i) 0 0 x0 [(0, x0)] J0 (Sub.cons rfl rfl (Sub.cons rfl rfl (Sub.cons rfl rfl (Sub.cons rfl rfl (Sub.cons rfl rfl (Sub.cons rfl rfl (Sub.cons rfl rfl (Sub.cons rfl rfl (Sub.cons rfl rfl (Sub.nil _)))))))))) (Subp.take (t := ?_) ?_) ?_
  rotate_left
  (repeat first | exact HTake.nil | (apply HTake.cons; focus (repeat first | exact HPick.hit | apply HPick.miss)))
  intro i a x o J
  have lo : ((o.map (stepOf locs)).map encS).length = i + 1 := by rw [List.length_map, List.length_map]; exact J.lo
  by_cases hi : i < c.length
  · have g1 := getD_ch (l := c) (k := i) (n := i) rfl hi
    have sk := sc _ (List.getElem_mem hi)
    have JN := J.none hi
    have JS := fun t y => J.some hi (t := t) (y := y)
    have lx := J.lx
    have sx := J.sm
    generalize c[i] = k at *
    obtain ⟨ke, w⟩ := k
    change _ = encCh' ke w at g1
    have stop : full = o → Fin (∃ z, HEnd.ret (tupOf [.list (.own rq 0) 3 ((o.map (stepOf locs)).map encS), ii i, ii 0]) = .ret z ∧ Weaker z (.tup [LSt (full.map (stepOf locs)), ii ((full.length : Int) - 1), ii 0])) := fun h => by
      have e : ((full.length : Nat) : Int) - 1 = i := by rw [h, J.lo]; omega
      rw [e, h]
      exact Fin.weak (Weaker.tup (.cons (Weaker.tok _ _ _) (.cons (.refl _) (.cons (.refl _) .nil))))
    by_cases k0 : 0 ≤ ke
    rotate_left
    · have stop := stop (JN (nxt_lo k0))
      clear JN JS J J0 rto hfull S S0
      repeat' first | refine Ops.tag rfl ?_ | (refine OpsT.go ?_; (conv => arg 7; whnf)) | ((with_reducible refine Stp.isDec ?_); first | refine Stp.decT ?_) | refine Stp.pure rfl ?_ | ((with_reducible refine PutK.isSet ?_); refine PutK.set (by repeat first | exact HsetIs.hit) ?_) | refine PutK.mk' rfl ?_ | refine Ops.nil ?_ | ((with_reducible refine Look.id ?_); refine Look.auto ?_ (by repeat first | exact HGet.hit); try (conv => arg 7; whnf)) | ((with_reducible refine Side.id ?_); first | refine Side.auto ?_) | ((with_reducible refine Br.id ?_); first | (with_reducible first | refine br_true rfl ?_)) | ((with_reducible refine SemWp.id ?_); first | refine sem_seq ?_ | refine sem_region rfl ?_ | refine sem_cond rfl ?_ | refine sem_block ?_ | refine sem_exit ?_ | refine sem_ret ?_ | refine sem_skip ?_) | ((with_reducible refine qThen.id ?_); first | refine qThen.go ?_) | ((with_reducible refine hinBlock.id ?_); first | refine hinBlock.on rfl ?_) | refine Stp.valS ?_ | refine Stp.look ?_ | refine Stp.eff ?_ | (refine newN (fun r hr => ?_); simp only [keys, List.nil_append, List.cons_append, List.map_cons, List.map_nil, List.mem_cons, List.not_mem_nil, not_or, or_false, not_false_eq_true] at hr) | ((with_reducible refine BodyR.id ?_); first | refine BodyR.ret ?_) | ((with_reducible refine ResG.id ?_); first | refine ResG.tmp rfl ?_ | refine ResG.nil ?_) | ((with_reducible refine Upd.id ?_); first | (refine Upd.lit rfl ?_; (conv => whnf))) | rw [g1]
      exact stop
    by_cases k1 : ke < (es.length : Int)
    rotate_left
    · have stop := stop (JN (nxt_hi k1))
      clear JN JS J J0 rto hfull S S0
      repeat' first | refine Ops.tag rfl ?_ | (refine OpsT.go ?_; (conv => arg 7; whnf)) | ((with_reducible refine Stp.isDec ?_); first | refine Stp.decT ?_ | refine Stp.decF ?_) | refine Stp.pure rfl ?_ | ((with_reducible refine PutK.isSet ?_); refine PutK.set (by repeat first | exact HsetIs.hit) ?_) | refine PutK.mk' rfl ?_ | refine Ops.nil ?_ | ((with_reducible refine Look.id ?_); refine Look.auto ?_ (by repeat first | exact HGet.hit | apply HGet.miss (by omega)); try (conv => arg 7; whnf)) | ((with_reducible refine Side.id ?_); first | refine Side.auto ?_) | ((with_reducible refine Br.id ?_); first | (with_reducible first | refine br_true rfl ?_ | refine br_false rfl ?_)) | ((with_reducible refine SemWp.id ?_); first | refine sem_seq ?_ | refine sem_region rfl ?_ | refine sem_cond rfl ?_ | refine sem_block ?_ | refine sem_exit ?_ | refine sem_ret ?_ | refine sem_skip ?_) | ((with_reducible refine qThen.id ?_); first | refine qThen.go ?_) | ((with_reducible refine hinBlock.id ?_); first | refine hinBlock.on rfl ?_) | refine Stp.valS ?_ | refine Stp.look ?_ | refine Stp.eff ?_ | (refine newN (fun r hr => ?_); simp only [keys, List.nil_append, List.cons_append, List.map_cons, List.map_nil, List.mem_cons, List.not_mem_nil, not_or, or_false, not_false_eq_true] at hr) | ((with_reducible refine BodyR.id ?_); first | refine BodyR.ret ?_) | ((with_reducible refine ResG.id ?_); first | refine ResG.tmp rfl ?_ | refine ResG.nil ?_) | ((with_reducible refine Upd.id ?_); first | (refine Upd.lit rfl ?_; (conv => whnf))) | rw [g1]
      exact stop
    obtain ⟨j, rfl⟩ := Int.eq_ofNat_of_zero_le k0
    have hj : j < es.length := by omega
    have g2 := getD_edge (l := es) (k := j) (n := j) rfl hj
    have e := nxt_eq (es := es) (c := ⟨j, w⟩) (at' := a) (x := x) rfl hj
    have to := rto j hj
    have se := he _ (List.getElem_mem hj)
    change 0 ≤ es[j].to ∧ es[j].to < (locs.length : Int) at to
    generalize es[j] = ed at *
    by_cases k2 : ed.fr = a
    rotate_left
    · have stop := stop (JN (by rw [e, if_neg fun h => k2 h.1]))
      clear JN JS J J0 rto hfull S S0
      repeat' first | refine Ops.tag rfl ?_ | (refine OpsT.go ?_; (conv => arg 7; whnf)) | ((with_reducible refine Stp.isDec ?_); first | refine Stp.decT ?_ | refine Stp.decF ?_) | refine Stp.pure rfl ?_ | ((with_reducible refine PutK.isSet ?_); refine PutK.set (by repeat first | exact HsetIs.hit) ?_) | refine PutK.mk' rfl ?_ | refine Ops.nil ?_ | (refine DOps.cons rfl rfl ?_; (conv => arg 7; whnf)) | ((with_reducible refine DStp.isNe ?_); first | refine DStp.neT ?_) | refine DStp.pure rfl ?_ | refine DOps.nil rfl ?_ | ((with_reducible refine Look.id ?_); refine Look.auto ?_ (by repeat first | exact HGet.hit | apply HGet.miss (by omega)); try (conv => arg 7; whnf)) | ((with_reducible refine Side.id ?_); first | refine Side.auto ?_) | ((with_reducible refine Br.id ?_); first | (with_reducible first | refine br_true rfl ?_ | refine br_false rfl ?_)) | ((with_reducible refine SemWp.id ?_); first | refine sem_seq ?_ | refine sem_region rfl ?_ | refine sem_cond rfl ?_ | refine sem_block ?_ | refine sem_exit ?_ | refine sem_ret ?_ | refine sem_skip ?_ | refine sem_draw ?_) | ((with_reducible refine qThen.id ?_); first | refine qThen.go ?_) | ((with_reducible refine hinBlock.id ?_); first | refine hinBlock.on rfl ?_) | refine Stp.valS ?_ | refine Stp.look ?_ | refine Stp.eff ?_ | refine DStp.valS ?_ | refine DStp.look ?_ | ((with_reducible refine DrawReg.id ?_); refine drawQ' cx (by decide +kernel) rfl ?_) | (refine newN (fun r hr => ?_); simp only [keys, List.nil_append, List.cons_append, List.map_cons, List.map_nil, List.mem_cons, List.not_mem_nil, not_or, or_false, not_false_eq_true] at hr) | ((with_reducible refine BodyR.id ?_); first | refine BodyR.ret ?_) | ((with_reducible refine ResG.id ?_); first | refine ResG.tmp rfl ?_ | refine ResG.nil ?_) | ((with_reducible refine Upd.id ?_); first | (refine Upd.lit rfl ?_; (conv => whnf))) | rw [g1] | rw [g2]
      exact stop
    have G := Go_spec (by omega) (by omega) ed x w se sx sk.2 (by omega) sk.1
    have gy := go_y (i := i) (by omega) se sx sk.2
    have ev : goV ed x w = if goB ed x w = true then .tup [LIs (ed.s.map fun a => ofZ (valZ a x w)), bb true] else .tup [LIs [], bb false] := rfl
    rw [ev] at G
    change Pur cx _ [encE' ed.fr ed.to ed.m ed.g ed.s ed.p, _, _] _ at G
    cases hg : goB ed x w with
    | false =>
      rw [hg] at G
      have stop := stop (JN (by rw [e, if_neg fun h => by rw [hg] at h; cases h.2]))
      clear JN JS J J0 rto hfull S S0 gy
      repeat' first | refine Ops.tag rfl ?_ | (refine OpsT.go ?_; (conv => arg 7; whnf)) | (with_reducible first | refine Stp.notF ?_) | ((with_reducible refine Stp.isDec ?_); first | refine Stp.decT ?_ | refine Stp.decF ?_) | refine Stp.pure rfl ?_ | ((with_reducible refine PutK.isSet ?_); refine PutK.set (by repeat first | exact HsetIs.hit) ?_) | refine PutK.mk' rfl ?_ | refine Ops.nil ?_ | (refine DOps.cons rfl rfl ?_; (conv => arg 7; whnf)) | ((with_reducible refine DStp.isNe ?_); first | refine DStp.neF ?_) | refine DStp.pure rfl ?_ | refine PutD.mk' rfl ?_ | refine DOps.nil rfl ?_ | ((with_reducible refine Look.id ?_); refine Look.auto ?_ (by repeat first | exact HGet.hit | apply HGet.miss (by omega)); try (conv => arg 7; whnf)) | ((with_reducible refine Side.id ?_); first | refine Side.auto ?_) | ((with_reducible refine Br.id ?_); first | (with_reducible first | refine br_true rfl ?_ | refine br_false rfl ?_)) | ((with_reducible refine SemWp.id ?_); first | refine sem_seq ?_ | refine sem_region rfl ?_ | refine sem_cond rfl ?_ | refine sem_block ?_ | refine sem_exit ?_ | refine sem_ret ?_ | refine sem_skip ?_ | refine sem_draw ?_) | ((with_reducible refine qThen.id ?_); first | refine qThen.go ?_) | ((with_reducible refine hinBlock.id ?_); first | refine hinBlock.go ?_) | refine Stp.valS ?_ | refine Stp.look ?_ | refine Stp.eff ?_ | refine DStp.valS ?_ | refine DStp.look ?_ | refine DStp.call ?_ | ((with_reducible refine QAsk.id ?_); first | (refine Pur.ask (G) ?_ ?_; focus (intro h; first | exact rfl))) | ((with_reducible refine DrawReg.id ?_); refine drawQ' cx (by decide +kernel) rfl ?_) | (refine newN (fun r hr => ?_); simp only [keys, List.nil_append, List.cons_append, List.map_cons, List.map_nil, List.mem_cons, List.not_mem_nil, not_or, or_false, not_false_eq_true] at hr) | ((with_reducible refine BodyR.id ?_); first | refine BodyR.ret ?_) | ((with_reducible refine ResG.id ?_); first | refine ResG.tmp rfl ?_ | refine ResG.nil ?_) | ((with_reducible refine Upd.id ?_); first | (refine Upd.lit rfl ?_; (conv => whnf))) | rw [g1] | rw [g2]
      exact stop
    | true =>
      rw [hg] at G e
      rw [if_pos ⟨k2, rfl⟩] at e
      obtain ⟨gy1, gy2, gy3⟩ := gy hg
      have J2 := JS _ _ e to.1 to.2 (by omega) gy2 gy3
      have gl : (ed.s.map fun a => ofZ (valZ a x w)).length ≤ 60 := by
        have : (ed.s.map fun a => ofZ (valZ a x w)).length = x.length := gy1
        omega
      have S1 := fun r1 r2 r3 h12 h13 h23 => S ed.to (ed.s.map fun a => ofZ (valZ a x w)) (40 + 41 * (i + 1)) (by omega) to.1 to.2 gy2 gl r1 r2 r3 h12 h13 h23
      rw [gy3] at S1
      have ot : (o ++ [(ed.to, ed.s.map fun a => ofZ (valZ a x w))]).map (stepOf locs) = o.map (stepOf locs) ++ [⟨(locs.getD ed.to.toNat locD).path, (locs.getD ed.to.toNat locD).point, ed.s.map fun a => ofZ (valZ a x w)⟩] := by rw [List.map_append]; rfl
      generalize (ed.s.map fun a => ofZ (valZ a x w)) = y at *
      generalize locs.getD ed.to.toNat locD = q at *
      clear gl JN JS J J0 rto hfull gy1 gy2 gy3 e hg stop S S0
      repeat' first | refine Ops.tag rfl ?_ | (refine OpsT.go ?_; (conv => arg 7; whnf)) | (with_reducible first | refine Stp.notT ?_) | ((with_reducible refine Stp.isSum ?_); refine Stp.sum ?_) | ((with_reducible refine Stp.isDec ?_); first | refine Stp.decT ?_ | refine Stp.decF ?_) | refine Stp.pure rfl ?_ | ((with_reducible refine PutK.isSet ?_); refine PutK.set (by repeat first | exact HsetIs.hit | apply HsetIs.miss (by omega)) ?_) | refine PutK.mk' rfl ?_ | refine Ops.nil ?_ | (refine DOps.cons rfl rfl ?_; (conv => arg 7; whnf)) | ((with_reducible refine DStp.isNe ?_); first | refine DStp.neF ?_) | refine DStp.pure rfl ?_ | refine PutD.mk' rfl ?_ | refine DOps.nil rfl ?_ | ((with_reducible refine Look.id ?_); refine Look.auto ?_ (by repeat first | exact HGet.hit | apply HGet.miss (by omega)); try (conv => arg 7; whnf)) | ((with_reducible refine Side.id ?_); first | refine Side.auto ?_) | ((with_reducible refine Br.id ?_); first | (with_reducible first | refine br_true rfl ?_ | refine br_false rfl ?_)) | ((with_reducible refine SemWp.id ?_); first | refine sem_seq ?_ | refine sem_region rfl ?_ | refine sem_cond rfl ?_ | refine sem_block ?_ | refine sem_skip ?_ | refine sem_draw ?_) | ((with_reducible refine qThen.id ?_); first | refine qThen.go ?_) | ((with_reducible refine hinBlock.id ?_); first | refine hinBlock.go ?_) | ((with_reducible refine hround.id ?_); first | refine hround.go ?_) | refine Stp.valS ?_ | refine Stp.look ?_ | refine Stp.call ?_ | refine Stp.eff ?_ | refine DStp.valS ?_ | refine DStp.look ?_ | refine DStp.call ?_ | ((with_reducible refine CallWp.id ?_); first | (refine callT cx (S1 _ _ _ (by omega) (by omega) (by omega)) (by repeat first | exact HTake.nil | (apply HTake.cons; focus (repeat first | exact HPick.hit | apply HPick.miss))) ?_; (conv => whnf))) | ((with_reducible refine QAsk.id ?_); first | (refine Pur.ask (G) ?_ ?_; focus (intro h; first | exact rfl))) | ((with_reducible refine DrawReg.id ?_); refine drawQ' cx (by decide +kernel) rfl ?_) | (refine newN (fun r hr => ?_); simp only [keys, List.nil_append, List.cons_append, List.map_cons, List.map_nil, List.mem_cons, List.not_mem_nil, not_or, or_false, not_false_eq_true] at hr) | ((with_reducible refine Upd.id ?_); first | (refine Upd.lit rfl ?_; (conv => whnf))) | rw [g1] | rw [g2]
      refine Fin.mk ⟨i + 1, ed.to, y, o ++ [(ed.to, y)], J2, by omega, Sub.cons rfl rfl (Sub.cons rfl rfl (Sub.cons rfl rfl (Sub.cons rfl rfl (Sub.cons rfl (by rw [ot, List.map_append]; rfl) (Sub.cons rfl rfl (Sub.cons rfl rfl (Sub.cons rfl rfl (Sub.cons rfl rfl (Sub.nil _))))))))), Subp.take (t := ?_) ?_⟩
      rotate_left
      (repeat first | exact HTake.nil | (apply HTake.cons; focus (repeat first | exact HPick.hit | apply HPick.miss)))
  · have : i = c.length := by have := J.le; omega
    have hf := J.fin this
    subst this
    have e : ((full.length : Nat) : Int) - 1 = c.length := by rw [hf, J.lo]; omega
    rw [e]
    clear J J0 rto hfull S S0
    subst hf
    repeat' first | refine Ops.tag rfl ?_ | (refine OpsT.go ?_; (conv => arg 7; whnf)) | ((with_reducible refine Stp.isDec ?_); first | refine Stp.decF ?_) | refine Stp.pure rfl ?_ | refine Ops.nil ?_ | ((with_reducible refine Br.id ?_); first | (with_reducible first | refine br_false rfl ?_)) | ((with_reducible refine SemWp.id ?_); first | refine sem_seq ?_ | refine sem_region rfl ?_ | refine sem_cond rfl ?_ | refine sem_exit ?_ | refine sem_ret ?_) | ((with_reducible refine qThen.id ?_); first | refine qThen.go ?_) | ((with_reducible refine BodyR.id ?_); first | refine BodyR.ret ?_) | ((with_reducible refine ResG.id ?_); first | refine ResG.tmp rfl ?_ | refine ResG.nil ?_)
    exact Fin.weak (Weaker.tup (.cons (Weaker.tok _ _ _) (.cons (.refl _) (.cons (.refl _) .nil))))
end Go.Proofs.Hk

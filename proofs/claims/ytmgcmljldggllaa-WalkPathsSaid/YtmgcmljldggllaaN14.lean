import Derived.Test.YtmgcmljldggllaaN12
set_option linter.unusedSimpArgs false
set_option linter.unusedVariables false
namespace Go.Proofs.Hk
open Go Go.Proofs

structure GE where
  fr : Int
  to : Int
  m : Int
  g : List GA
  s : List GA
  p : List Bool
def LAs (l : List GA) : HV := .list .no 4 (l.map encA)
def LBs (l : List Bool) : HV := .list .no 1 (l.map bb)
def encE' (fr to m : Int) (g s : List GA) (p : List Bool) : HV := .agg [ii fr, ii to, ii m, LAs g, LAs s, LBs p]
def encE (e : GE) : HV := encE' e.fr e.to e.m e.g e.s e.p
structure SmE (e : GE) : Prop where
  g : ∀ a ∈ e.g, SmA a
  s : ∀ a ∈ e.s, SmA a
  lg : e.g.length ≤ 1000
  ls : e.s.length ≤ 1000
def ga0 : GA := ⟨[], [], gi0⟩
theorem sma0 : SmA ga0 := ⟨fun _ h => by simp [ga0] at h, fun _ h => by simp [ga0] at h, sm0, by decide, by decide⟩
theorem sma_getD {l : List GA} (h : ∀ a ∈ l, SmA a) (j : Nat) : SmA (l.getD j ga0) := by
  rw [List.getD_eq_getElem?_getD]
  cases e : l[j]? with
  | none => exact sma0
  | some g => exact h g (List.mem_of_getElem? e)
def vOk (x w : List GI) (a : GA) : Bool := a.x.length == x.length && a.w.length == w.length
theorem valV_ok {x w : List GI} {a : GA} (h : vOk x w a = true) : valV a x w = .tup [encI (ofZ (valZ a x w)), ii 0] := by
  unfold valV; rw [if_pos (by simpa [vOk] using h)]
theorem valV_no {x w : List GI} {a : GA} (h : vOk x w a = false) : valV a x w = .tup [encI gi0, ii 1] := by
  unfold valV
  rw [if_neg]
  intro hc
  have : vOk x w a = true := by simpa [vOk] using hc
  rw [this] at h; cases h
def goB (e : GE) (x w : List GI) : Bool := (decide (e.s.length = x.length) && decide (e.m = w.length)) && e.g.all (fun a => vOk x w a && decide (valZ a x w ≤ 0)) && e.s.all (vOk x w)
def goV (e : GE) (x w : List GI) : HV := if goB e x w = true then .tup [LIs (e.s.map fun a => ofZ (valZ a x w)), bb true] else .tup [LIs [], bb false]
theorem getD_aff {l : List GA} {k : Int} {n : Nat} (hk : k = n) (h : n < l.length) : (l.map encA).getD k.toNat default = encA' (l.getD n ga0).x (l.getD n ga0).w (l.getD n ga0).k.neg (l.getD n ga0).k.l := by
  subst hk
  simp [List.getD_eq_getElem?_getD, h, encA]
theorem all_take {l : List GA} {p : GA → Bool} {i : Nat} (h : i < l.length) : (l.take (i + 1)).all p = ((l.take i).all p && p (l.getD i ga0)) := by
  rw [List.take_succ_eq_append_getElem h, List.all_append, List.getD_eq_getElem?_getD, List.getElem?_eq_getElem h]
  simp
theorem map_take {l : List GA} {f : GA → GI} {i : Nat} (h : i < l.length) : (l.take (i + 1)).map f = (l.take i).map f ++ [f (l.getD i ga0)] := by
  rw [List.take_succ_eq_append_getElem h, List.map_append, List.getD_eq_getElem?_getD, List.getElem?_eq_getElem h]
  simp
theorem all_no {l : List GA} {p : GA → Bool} {i : Nat} (h : i < l.length) (hp : p (l.getD i ga0) = false) : l.all p = false := by
  rw [List.all_eq_false]
  refine ⟨l[i], List.getElem_mem h, ?_⟩
  rw [List.getD_eq_getElem?_getD, List.getElem?_eq_getElem h] at hp
  simpa using hp
theorem cmpZ_le {x : Int} : decide (cmpZ x 0 ≤ 0) = decide (x ≤ 0) := by
  unfold cmpZ
  rw [decide_eq_decide]
  split
  · omega
  · split <;> omega
theorem valZ_bnd {n : Nat} (h40 : 40 ≤ n) (h41 : n ≤ 10000) {a : GA} {x w : List GI} (ha : SmA a) (hx : ∀ g ∈ x, SmN n g) (hw : ∀ g ∈ w, Sm g) : (valZ a x w).natAbs ≤ (60 + 60 + 1) * B ^ (40 + n) := by
  unfold valZ
  exact bnd (bnd (psum_lt h41 ha.x hx ha.lx) (psum_lt h41 ha.w (fun g h => (hw g h).to h40) ha.lw)) (bnd1 ha.k)
theorem weakGo : Weaker (.tup [.v (.slice none 0 0), bb false]) (.tup [LIs [], bb false]) := Weaker.tup (.cons (Weaker.nil 2) (.cons (.refl _) .nil))
set_option maxHeartbeats 1000000 in
theorem Go_spec {n : Nat} (h40 : 40 ≤ n) (h41 : n ≤ 10000) (e : GE) (x w : List GI) (he : SmE e) (hx : ∀ g ∈ x, SmN n g) (hw : ∀ g ∈ w, Sm g) (nx : x.length ≤ 60) (nw : w.length ≤ 60) : Pur cx 19 [encE e, LIs x, LIs w] (goV e x w) := by
  obtain ⟨fr, to, m, eg, es, ep⟩ := e
  have hg : ∀ a ∈ eg, SmA a := he.g
  have hs : ∀ a ∈ es, SmA a := he.s
  have lg : eg.length ≤ 1000 := he.lg
  have ls : es.length ≤ 1000 := he.ls
  have m1 : (eg.map encA).length = eg.length := by simp
  have m2 : (es.map encA).length = es.length := by simp
  have m3 : (x.map encI).length = x.length := by simp
  have m4 : (w.map encI).length = w.length := by simp
  have hB : goB ⟨fr, to, m, eg, es, ep⟩ x w = ((decide (es.length = x.length) && decide (m = w.length)) && eg.all (fun a => vOk x w a && decide (valZ a x w ≤ 0)) && es.all (vOk x w)) := rfl
  unfold goV
  show Pur cx _ [encE' fr to m eg es ep, LIs x, LIs w] (if goB ⟨fr, to, m, eg, es, ep⟩ x w = true then .tup [LIs (es.map fun a => ofZ (valZ a x w)), bb true] else .tup [LIs [], bb false])
  generalize goB ⟨fr, to, m, eg, es, ep⟩ x w = gb at *
  refine Pur.ofW (sem_calls' cx (fn := Try.f19) rfl rfl rfl rfl ?_)
  by_cases hl : es.length = x.length ∧ m = w.length
  rotate_left
  · have hf : gb = false := by
      rw [hB]
      have : (decide (es.length = x.length) && decide (m = w.length)) = false := by
        cases h : (decide (es.length = x.length) && decide (m = w.length)) with
        | false => rfl
        | true => exact absurd (by simpa using h) hl
      rw [this]; rfl
    subst hf
    by_cases l1 : es.length = x.length
    · repeat' first | refine Ops.tag rfl ?_ | ((with_reducible first | refine OpsT.yes' ?_); (conv => arg 7; whnf)) | (refine OpsT.go ?_; (conv => arg 7; whnf)) | (with_reducible first | refine Stp.orF ?_) | ((with_reducible refine Stp.isNe ?_); first | refine Stp.neT ?_ | refine Stp.neF ?_) | refine Stp.pure rfl ?_ | refine PutK.mk' rfl ?_ | refine Ops.nil ?_ | ((with_reducible refine Look.id ?_); refine Look.auto ?_ (by repeat first | exact HGet.hit); try (conv => arg 7; whnf)) | ((with_reducible refine Side.id ?_); first | refine Side.auto ?_) | ((with_reducible refine Br.id ?_); first | (with_reducible first | refine br_true rfl ?_)) | ((with_reducible refine SemWp.id ?_); first | refine sem_seq ?_ | refine sem_region rfl ?_ | refine sem_cond rfl ?_ | refine sem_ret ?_) | ((with_reducible refine qThen.id ?_); first | refine qThen.go ?_ | refine qThen.ret ?_) | refine Stp.valS ?_ | refine Stp.look ?_ | refine Stp.eff ?_ | (refine newN (fun r hr => ?_); simp only [keys, List.nil_append, List.cons_append, List.map_cons, List.map_nil, List.mem_cons, List.not_mem_nil, not_or, or_false, not_false_eq_true] at hr) | ((with_reducible refine BodyR.id ?_); first | refine BodyR.ret ?_) | ((with_reducible refine ResG.id ?_); first | refine ResG.tmp rfl ?_ | refine ResG.nil ?_)
      all_goals exact Fin.weak weakGo
    · repeat' first | refine Ops.tag rfl ?_ | (with_reducible first | refine OpsT.no' ?_) | (refine OpsT.go ?_; (conv => arg 7; whnf)) | (with_reducible first | refine Stp.orT ?_) | ((with_reducible refine Stp.isNe ?_); first | refine Stp.neT ?_) | refine Stp.pure rfl ?_ | refine PutK.mk' rfl ?_ | refine Ops.nil ?_ | ((with_reducible refine Look.id ?_); refine Look.auto ?_ (by repeat first | exact HGet.hit); try (conv => arg 7; whnf)) | ((with_reducible refine Side.id ?_); first | refine Side.auto ?_) | ((with_reducible refine Br.id ?_); first | (with_reducible first | refine br_true rfl ?_)) | ((with_reducible refine SemWp.id ?_); first | refine sem_seq ?_ | refine sem_region rfl ?_ | refine sem_cond rfl ?_ | refine sem_ret ?_) | ((with_reducible refine qThen.id ?_); first | refine qThen.go ?_ | refine qThen.ret ?_) | refine Stp.valS ?_ | refine Stp.look ?_ | refine Stp.eff ?_ | (refine newN (fun r hr => ?_); simp only [keys, List.nil_append, List.cons_append, List.map_cons, List.map_nil, List.mem_cons, List.not_mem_nil, not_or, or_false, not_false_eq_true] at hr) | ((with_reducible refine BodyR.id ?_); first | refine BodyR.ret ?_) | ((with_reducible refine ResG.id ?_); first | refine ResG.tmp rfl ?_ | refine ResG.nil ?_)
      all_goals exact Fin.weak weakGo
  obtain ⟨l1, l2⟩ := hl
  rw [decide_eq_true l1, decide_eq_true l2, Bool.true_and, Bool.true_and] at hB
  repeat' first | refine Ops.tag rfl ?_ | ((with_reducible first | refine OpsT.yes' ?_); (conv => arg 7; whnf)) | (refine OpsT.go ?_; (conv => arg 7; whnf)) | (with_reducible first | refine Stp.orF ?_) | ((with_reducible refine Stp.isNe ?_); first | refine Stp.neF ?_) | refine Stp.pure rfl ?_ | refine PutK.mk' rfl ?_ | refine Ops.nil ?_ | ((with_reducible refine Look.id ?_); refine Look.auto ?_ (by repeat first | exact HGet.hit); try (conv => arg 7; whnf)) | ((with_reducible refine Side.id ?_); first | refine Side.auto ?_) | ((with_reducible refine Br.id ?_); first | (with_reducible first | refine br_false rfl ?_)) | ((with_reducible refine SemWp.id ?_); first | refine sem_seq ?_ | refine sem_region rfl ?_ | refine sem_cond rfl ?_ | refine sem_block ?_ | refine sem_skip ?_) | ((with_reducible refine qThen.id ?_); first | refine qThen.go ?_) | refine Stp.valS ?_ | refine Stp.look ?_ | refine Stp.eff ?_ | (refine newN (fun r hr => ?_); simp only [keys, List.nil_append, List.cons_append, List.map_cons, List.map_nil, List.mem_cons, List.not_mem_nil, not_or, or_false, not_false_eq_true] at hr)
  refine sem_loop cx (ι := Nat) (fun i => i ≤ eg.length ∧ (eg.take i).all (vOk x w) = true) (fun i => [(1, .sure, LIs x), (2, .sure, LIs w), (3, .sure, .ptr r 0), (8, .sure, bb ((eg.take i).all fun a => decide (valZ a x w ≤ 0))), (32, .sure, LAs eg), (33, .sure, ii eg.length), (34, .sure, ii i)]) (fun i => [(r, .cells [ii fr, ii to, ii m, LAs eg, LAs es, LBs ep] 46)]) (fun i => eg.length - i) 0 ⟨Nat.zero_le _, rfl⟩ (by repeat' first | exact Sub.nil _ | refine Sub.auto ?_) (Subp.of_eq rfl) ?_
  rintro i ⟨i1, i2⟩
  by_cases hi : i < eg.length
  · have g1 := getD_aff (l := eg) (k := i) (n := i) rfl hi
    have t1 := all_take (p := vOk x w) hi
    have t2 := all_take (p := fun a => decide (valZ a x w ≤ 0)) hi
    have n1 := all_no (p := fun a => vOk x w a && decide (valZ a x w ≤ 0)) hi
    have V := Value_spec h40 h41 _ x w (sma_getD hg i) hx hw nx nw
    have vb := valZ_bnd h40 h41 (sma_getD hg i) hx hw
    generalize eg.getD i ga0 = a at *
    cases ho : vOk x w a with
    | false =>
      rw [valV_no ho] at V
      have hf : gb = false := by rw [hB, n1 (by rw [ho]; rfl)]; rfl
      subst hf
      repeat' first | refine Ops.tag rfl ?_ | (refine OpsT.go ?_; (conv => arg 7; whnf)) | ((with_reducible refine Stp.isDec ?_); first | refine Stp.decT ?_) | ((with_reducible refine Stp.isNe ?_); first | refine Stp.neT ?_) | refine Stp.pure rfl ?_ | ((with_reducible refine PutK.isSet ?_); refine PutK.set (by repeat first | exact HsetIs.hit) ?_) | refine PutK.mk' rfl ?_ | refine Ops.nil ?_ | ((with_reducible refine Look.id ?_); refine Look.auto ?_ (by repeat first | exact HGet.hit); try (conv => arg 7; whnf)) | ((with_reducible refine Side.id ?_); first | refine Side.auto ?_) | ((with_reducible refine Br.id ?_); first | (with_reducible first | refine br_true rfl ?_)) | ((with_reducible refine SemWp.id ?_); first | refine sem_seq ?_ | refine sem_region rfl ?_ | refine sem_cond rfl ?_ | refine sem_block ?_ | refine sem_ret ?_ | refine sem_skip ?_) | ((with_reducible refine qThen.id ?_); first | refine qThen.go ?_ | refine qThen.ret ?_) | ((with_reducible refine hinBlock.id ?_); first | refine hinBlock.ret ?_) | ((with_reducible refine hround.id ?_); first | refine hround.ret ?_) | refine Stp.valS ?_ | refine Stp.look ?_ | refine Stp.call ?_ | refine Stp.eff ?_ | ((with_reducible refine CallWp.id ?_); first | refine Pur.call (V) ?_) | (refine newN (fun r hr => ?_); simp only [keys, List.nil_append, List.cons_append, List.map_cons, List.map_nil, List.mem_cons, List.not_mem_nil, not_or, or_false, not_false_eq_true] at hr) | ((with_reducible refine BodyR.id ?_); first | refine BodyR.ret ?_) | ((with_reducible refine ResG.id ?_); first | refine ResG.tmp rfl ?_ | refine ResG.nil ?_) | ((with_reducible refine Upd.id ?_); first | (refine Upd.lit rfl ?_; (conv => whnf))) | rw [g1]
      exact Fin.weak weakGo
    | true =>
      rw [valV_ok ho] at V
      obtain ⟨o1, o2⟩ := ofZ_ok (B82 vb (by omega)) (by omega)
      have C := Cmp_spec _ gi0 o1 sm0.ok o2 (by decide)
      rw [toZ_ofZ, toZ_gi0] at C
      have C' := C.args (ys := [encI (ofZ (valZ a x w)), .agg [bb false, .v (.slice none 0 0)]]) (.cons (.refl _) (.cons weak0 .nil))
      repeat' first | refine Ops.tag rfl ?_ | (refine OpsT.go ?_; (conv => arg 7; whnf)) | ((with_reducible refine Stp.isSum ?_); refine Stp.sum ?_) | ((with_reducible refine Stp.isDec ?_); first | refine Stp.decT ?_) | ((with_reducible refine Stp.isNe ?_); first | refine Stp.neF ?_) | refine Stp.pure rfl ?_ | ((with_reducible refine PutK.isSet ?_); refine PutK.set (by repeat first | exact HsetIs.hit) ?_) | refine PutK.mk' rfl ?_ | refine Ops.nil ?_ | ((with_reducible refine Look.id ?_); refine Look.auto ?_ (by repeat first | exact HGet.hit); try (conv => arg 7; whnf)) | ((with_reducible refine Side.id ?_); first | refine Side.auto ?_) | ((with_reducible refine Br.id ?_); first | (with_reducible first | refine br_true rfl ?_ | refine br_false rfl ?_)) | ((with_reducible refine SemWp.id ?_); first | refine sem_seq ?_ | refine sem_region rfl ?_ | refine sem_cond rfl ?_ | refine sem_block ?_ | refine sem_skip ?_) | ((with_reducible refine qThen.id ?_); first | refine qThen.go ?_) | ((with_reducible refine hinBlock.id ?_); first | refine hinBlock.go ?_) | ((with_reducible refine hround.id ?_); first | refine hround.go ?_) | refine Stp.valS ?_ | refine Stp.valSC ?_ | refine Stp.look ?_ | refine Stp.call ?_ | refine Stp.callC ?_ | refine Stp.eff ?_ | ((with_reducible refine CallWp.id ?_); first | refine Pur.call (V) ?_) | ((with_reducible refine CallC.id ?_); first | (refine Pur.askC (C') ?_ ?_; focus (intro h; first | exact ⟨h, h, rfl⟩))) | (refine newN (fun r hr => ?_); simp only [keys, List.nil_append, List.cons_append, List.map_cons, List.map_nil, List.mem_cons, List.not_mem_nil, not_or, or_false, not_false_eq_true] at hr) | ((with_reducible refine Upd.id ?_); first | (refine Upd.lit rfl ?_; (conv => whnf))) | rw [g1]
      refine Fin.mk ⟨i + 1, ⟨by omega, by rw [t1, i2, ho]; rfl⟩, by omega, Sub.cons rfl rfl (Sub.cons rfl rfl (Sub.cons rfl rfl (Sub.cons rfl (by rw [t2, ← cmpZ_le (x := valZ a x w)]; rfl) (Sub.cons rfl rfl (Sub.cons rfl rfl (Sub.cons rfl rfl (Sub.nil _))))))), ?_⟩
      exact (Subp.refl _).skip _ |>.skip _
  · have : i = eg.length := by omega
    subst this
    rw [List.take_length] at i2
    rw [List.take_length]
    generalize hgo : (eg.all fun a => decide (valZ a x w ≤ 0)) = go at *
    have hall : (eg.all fun a => vOk x w a && decide (valZ a x w ≤ 0)) = go := by
      rw [← hgo, Bool.eq_iff_iff, List.all_eq_true, List.all_eq_true]
      rw [List.all_eq_true] at i2
      exact ⟨fun h a ha => by have := h a ha; simp at this ⊢; exact this.2, fun h a ha => by have := h a ha; simp at this ⊢; exact ⟨i2 a ha, this⟩⟩
    rw [hall] at hB
    repeat' first | refine Ops.tag rfl ?_ | (refine OpsT.go ?_; (conv => arg 7; whnf)) | ((with_reducible refine Stp.isDec ?_); first | refine Stp.decF ?_) | refine Stp.pure rfl ?_ | refine Ops.nil ?_ | ((with_reducible refine Look.id ?_); refine Look.auto ?_ (by repeat first | exact HGet.hit); try (conv => arg 7; whnf)) | ((with_reducible refine Side.id ?_); first | refine Side.auto ?_) | ((with_reducible refine Br.id ?_); first | (with_reducible first | refine br_false rfl ?_)) | ((with_reducible refine SemWp.id ?_); first | refine sem_seq ?_ | refine sem_region rfl ?_ | refine sem_cond rfl ?_ | refine sem_block ?_ | refine sem_exit ?_) | ((with_reducible refine qThen.id ?_); first | refine qThen.go ?_) | refine Stp.valS ?_ | refine Stp.look ?_
    refine sem_nil_own cx 13 2 rfl ?_
    intro rt hrt
    simp only [keys, List.map_cons, List.map_nil, List.mem_cons, List.not_mem_nil, not_or, or_false, not_false_eq_true] at hrt
    refine sem_loop cx (ι := Nat) (fun j => j ≤ es.length ∧ (es.take j).all (vOk x w) = true) (fun j => [(1, .sure, LIs x), (2, .sure, LIs w), (3, .sure, .ptr r 0), (8, .sure, bb go), (56, .sure, LAs es), (57, .sure, ii es.length), (58, .sure, ii j), (13, .sure, .list (.own rt 0) 2 (((es.take j).map fun a => ofZ (valZ a x w)).map encI))]) (fun j => [(rt, .tok j), (r, .cells [ii fr, ii to, ii m, LAs eg, LAs es, LBs ep] 46)]) (fun j => es.length - j) 0 ⟨Nat.zero_le _, rfl⟩ (by repeat' first | exact Sub.nil _ | refine Sub.auto ?_) (Subp.of_eq rfl) ?_
    rintro j ⟨j1, j2⟩
    have ml : (((es.take j).map fun a => ofZ (valZ a x w)).map encI).length = j := by simp; omega
    by_cases hj : j < es.length
    · have g1 := getD_aff (l := es) (k := j) (n := j) rfl hj
      have t1 := all_take (p := vOk x w) hj
      have t2 := map_take (f := fun a => ofZ (valZ a x w)) hj
      have n1 := all_no (p := vOk x w) hj
      have V := Value_spec h40 h41 _ x w (sma_getD hs j) hx hw nx nw
      generalize es.getD j ga0 = a at *
      cases ho : vOk x w a with
      | false =>
        rw [valV_no ho] at V
        have hf : gb = false := by rw [hB, n1 ho, Bool.and_false]
        subst hf
        clear hB hall hgo n1 t1 t2
        repeat' first | refine Ops.tag rfl ?_ | (refine OpsT.go ?_; (conv => arg 7; whnf)) | ((with_reducible refine Stp.isDec ?_); first | refine Stp.decT ?_) | ((with_reducible refine Stp.isNe ?_); first | refine Stp.neT ?_) | refine Stp.pure rfl ?_ | ((with_reducible refine PutK.isSet ?_); refine PutK.set (by repeat first | exact HsetIs.hit) ?_) | refine PutK.mk' rfl ?_ | refine Ops.nil ?_ | ((with_reducible refine Look.id ?_); refine Look.auto ?_ (by repeat first | exact HGet.hit); try (conv => arg 7; whnf)) | ((with_reducible refine Side.id ?_); first | refine Side.auto ?_) | ((with_reducible refine Br.id ?_); first | (with_reducible first | refine br_true rfl ?_)) | ((with_reducible refine SemWp.id ?_); first | refine sem_seq ?_ | refine sem_region rfl ?_ | refine sem_cond rfl ?_ | refine sem_block ?_ | refine sem_ret ?_ | refine sem_skip ?_) | ((with_reducible refine qThen.id ?_); first | refine qThen.go ?_ | refine qThen.ret ?_) | ((with_reducible refine hinBlock.id ?_); first | refine hinBlock.ret ?_) | ((with_reducible refine hround.id ?_); first | refine hround.ret ?_) | refine Stp.valS ?_ | refine Stp.look ?_ | refine Stp.call ?_ | refine Stp.eff ?_ | ((with_reducible refine CallWp.id ?_); first | refine Pur.call (V) ?_) | (refine newN (fun r hr => ?_); simp only [keys, List.nil_append, List.cons_append, List.map_cons, List.map_nil, List.mem_cons, List.not_mem_nil, not_or, or_false, not_false_eq_true] at hr) | ((with_reducible refine BodyR.id ?_); first | refine BodyR.ret ?_) | ((with_reducible refine ResG.id ?_); first | refine ResG.tmp rfl ?_ | refine ResG.nil ?_) | ((with_reducible refine Upd.id ?_); first | (refine Upd.lit rfl ?_; (conv => whnf))) | rw [g1]
        exact Fin.weak weakGo
      | true =>
        rw [valV_ok ho] at V
        repeat' first | refine Ops.tag rfl ?_ | (refine OpsT.go ?_; (conv => arg 7; whnf)) | ((with_reducible refine Stp.isSum ?_); refine Stp.sum ?_) | ((with_reducible refine Stp.isDec ?_); first | refine Stp.decT ?_) | ((with_reducible refine Stp.isNe ?_); first | refine Stp.neF ?_) | refine Stp.pure rfl ?_ | ((with_reducible refine PutK.isSet ?_); refine PutK.set (by repeat first | exact HsetIs.hit | apply HsetIs.miss (by omega)) ?_) | refine PutK.mk' rfl ?_ | refine Ops.nil ?_ | ((with_reducible refine Look.id ?_); refine Look.auto ?_ (by repeat first | exact HGet.hit | apply HGet.miss (by omega)); try (conv => arg 7; whnf)) | ((with_reducible refine Side.id ?_); first | refine Side.auto ?_) | ((with_reducible refine Br.id ?_); first | (with_reducible first | refine br_true rfl ?_ | refine br_false rfl ?_)) | ((with_reducible refine SemWp.id ?_); first | refine sem_seq ?_ | refine sem_region rfl ?_ | refine sem_cond rfl ?_ | refine sem_block ?_ | refine sem_skip ?_) | ((with_reducible refine qThen.id ?_); first | refine qThen.go ?_) | ((with_reducible refine hinBlock.id ?_); first | refine hinBlock.go ?_) | ((with_reducible refine hround.id ?_); first | refine hround.go ?_) | refine Stp.valS ?_ | refine Stp.look ?_ | refine Stp.call ?_ | refine Stp.eff ?_ | ((with_reducible refine CallWp.id ?_); first | refine Pur.call (V) ?_) | (refine newN (fun r hr => ?_); simp only [keys, List.nil_append, List.cons_append, List.map_cons, List.map_nil, List.mem_cons, List.not_mem_nil, not_or, or_false, not_false_eq_true] at hr) | ((with_reducible refine Upd.id ?_); first | (refine Upd.lit rfl ?_; (conv => whnf))) | rw [g1]
        refine Fin.mk ⟨j + 1, ⟨by omega, by rw [t1, j2, ho]; rfl⟩, by omega, Sub.cons rfl rfl (Sub.cons rfl rfl (Sub.cons rfl rfl (Sub.cons rfl rfl (Sub.cons rfl rfl (Sub.cons rfl rfl (Sub.cons rfl rfl (Sub.cons rfl (by rw [t2, List.map_append]; rfl) (Sub.nil _)))))))), ?_⟩
        exact (Subp.refl _).skip _ |>.skip _
    · have : j = es.length := by omega
      subst this
      rw [List.take_length] at j2
      rw [j2, Bool.and_true] at hB
      subst hB
      cases gb with
      | false =>
        repeat' first | refine Ops.tag rfl ?_ | (refine OpsT.go ?_; (conv => arg 7; whnf)) | (with_reducible first | refine Stp.notF ?_) | ((with_reducible refine Stp.isDec ?_); first | refine Stp.decF ?_) | refine Stp.pure rfl ?_ | refine Ops.nil ?_ | ((with_reducible refine Br.id ?_); first | (with_reducible first | refine br_true rfl ?_ | refine br_false rfl ?_)) | ((with_reducible refine SemWp.id ?_); first | refine sem_seq ?_ | refine sem_region rfl ?_ | refine sem_cond rfl ?_ | refine sem_exit ?_ | refine sem_ret ?_) | ((with_reducible refine qThen.id ?_); first | refine qThen.go ?_ | refine qThen.ret ?_) | ((with_reducible refine BodyR.id ?_); first | refine BodyR.ret ?_) | ((with_reducible refine ResG.id ?_); first | refine ResG.tmp rfl ?_ | refine ResG.nil ?_)
        exact Fin.weak weakGo
      | true =>
        repeat' first | refine Ops.tag rfl ?_ | (refine OpsT.go ?_; (conv => arg 7; whnf)) | (with_reducible first | refine Stp.notT ?_) | ((with_reducible refine Stp.isDec ?_); first | refine Stp.decF ?_) | refine Stp.pure rfl ?_ | refine Ops.nil ?_ | ((with_reducible refine Br.id ?_); first | (with_reducible first | refine br_false rfl ?_)) | ((with_reducible refine SemWp.id ?_); first | refine sem_seq ?_ | refine sem_region rfl ?_ | refine sem_cond rfl ?_ | refine sem_exit ?_ | refine sem_ret ?_ | refine sem_skip ?_) | ((with_reducible refine qThen.id ?_); first | refine qThen.go ?_) | ((with_reducible refine BodyR.id ?_); first | refine BodyR.ret ?_) | ((with_reducible refine ResG.id ?_); first | refine ResG.tmp rfl ?_ | refine ResG.nil ?_)
        rw [List.take_length]
        exact Fin.weak (Weaker.tup (.cons (Weaker.tok _ _ _) (.cons (.refl _) .nil)))
end Go.Proofs.Hk

set_option linter.unusedSimpArgs false
set_option linter.unusedVariables false
namespace Go.Proofs.Hk
open Go Go.Proofs

set_option maxHeartbeats 1000000 in
theorem rGo_spec {n : Nat} (h40 : 40 ≤ n) (h41 : n ≤ 10000) (e : GE) (x w : List GI) (he : SmE e) (hx : ∀ g ∈ x, SmN n g) (hw : ∀ g ∈ w, Sm g) (nx : x.length ≤ 60) (nw : w.length ≤ 60) : Pur cx 20 [encE e, LIs x, LIs w] (goV e x w) := by
  obtain ⟨fr, to, m, eg, es, ep⟩ := e
  have hg : ∀ a ∈ eg, SmA a := he.g
  have hs : ∀ a ∈ es, SmA a := he.s
  have lg : eg.length ≤ 1000 := he.lg
  have ls : es.length ≤ 1000 := he.ls
  have m1 : (eg.map encA).length = eg.length := by simp
  have m2 : (es.map encA).length = es.length := by simp
  have m3 : (x.map encI).length = x.length := by simp
  have m4 : (w.map encI).length = w.length := by simp
  have hB : goB ⟨fr, to, m, eg, es, ep⟩ x w = ((decide (es.length = x.length) && decide (m = w.length)) && eg.all (fun a => vOk x w a && decide (valZ a x w ≤ 0)) && es.all (vOk x w)) := rfl
  unfold goV
  show Pur cx _ [encE' fr to m eg es ep, LIs x, LIs w] (if goB ⟨fr, to, m, eg, es, ep⟩ x w = true then .tup [LIs (es.map fun a => ofZ (valZ a x w)), bb true] else .tup [LIs [], bb false])
  generalize goB ⟨fr, to, m, eg, es, ep⟩ x w = gb at *
  refine Pur.ofW (sem_calls' cx (fn := Try.f20) rfl rfl rfl rfl ?_)
  by_cases hl : es.length = x.length ∧ m = w.length
  rotate_left
  · have hf : gb = false := by
      rw [hB]
      have : (decide (es.length = x.length) && decide (m = w.length)) = false := by
        cases h : (decide (es.length = x.length) && decide (m = w.length)) with
        | false => rfl
        | true => exact absurd (by simpa using h) hl
      rw [this]; rfl
    subst hf
    clear hB
    by_cases l1 : m = w.length
    · repeat' first | refine Ops.tag rfl ?_ | ((with_reducible first | refine OpsT.yes' ?_); (conv => arg 7; whnf)) | (refine OpsT.go ?_; (conv => arg 7; whnf)) | (with_reducible first | refine Stp.orF ?_) | ((with_reducible refine Stp.isNe ?_); first | refine Stp.neT ?_ | refine Stp.neF ?_) | refine Stp.pure rfl ?_ | refine PutK.mk' rfl ?_ | refine Ops.nil ?_ | ((with_reducible refine Look.id ?_); refine Look.auto ?_ (by repeat first | exact HGet.hit); try (conv => arg 7; whnf)) | ((with_reducible refine Side.id ?_); first | refine Side.auto ?_) | ((with_reducible refine Br.id ?_); first | (with_reducible first | refine br_true rfl ?_)) | ((with_reducible refine SemWp.id ?_); first | refine sem_seq ?_ | refine sem_region rfl ?_ | refine sem_cond rfl ?_ | refine sem_ret ?_) | ((with_reducible refine qThen.id ?_); first | refine qThen.go ?_ | refine qThen.ret ?_) | refine Stp.valS ?_ | refine Stp.look ?_ | refine Stp.eff ?_ | (refine newN (fun r hr => ?_); simp only [keys, List.nil_append, List.cons_append, List.map_cons, List.map_nil, List.mem_cons, List.not_mem_nil, not_or, or_false, not_false_eq_true] at hr) | ((with_reducible refine BodyR.id ?_); first | refine BodyR.ret ?_) | ((with_reducible refine ResG.id ?_); first | refine ResG.tmp rfl ?_ | refine ResG.nil ?_)
      all_goals exact Fin.weak weakGo
    · repeat' first | refine Ops.tag rfl ?_ | (with_reducible first | refine OpsT.no' ?_) | (refine OpsT.go ?_; (conv => arg 7; whnf)) | (with_reducible first | refine Stp.orT ?_) | ((with_reducible refine Stp.isNe ?_); first | refine Stp.neT ?_) | refine Stp.pure rfl ?_ | refine PutK.mk' rfl ?_ | refine Ops.nil ?_ | ((with_reducible refine Look.id ?_); refine Look.auto ?_ (by repeat first | exact HGet.hit); try (conv => arg 7; whnf)) | ((with_reducible refine Side.id ?_); first | refine Side.auto ?_) | ((with_reducible refine Br.id ?_); first | (with_reducible first | refine br_true rfl ?_)) | ((with_reducible refine SemWp.id ?_); first | refine sem_seq ?_ | refine sem_region rfl ?_ | refine sem_cond rfl ?_ | refine sem_ret ?_) | ((with_reducible refine qThen.id ?_); first | refine qThen.go ?_ | refine qThen.ret ?_) | refine Stp.valS ?_ | refine Stp.look ?_ | refine Stp.eff ?_ | (refine newN (fun r hr => ?_); simp only [keys, List.nil_append, List.cons_append, List.map_cons, List.map_nil, List.mem_cons, List.not_mem_nil, not_or, or_false, not_false_eq_true] at hr) | ((with_reducible refine BodyR.id ?_); first | refine BodyR.ret ?_) | ((with_reducible refine ResG.id ?_); first | refine ResG.tmp rfl ?_ | refine ResG.nil ?_)
      all_goals exact Fin.weak weakGo
  obtain ⟨l1, l2⟩ := hl
  rw [decide_eq_true l1, decide_eq_true l2, Bool.true_and, Bool.true_and] at hB
  repeat' first | refine Ops.tag rfl ?_ | ((with_reducible first | refine OpsT.yes' ?_); (conv => arg 7; whnf)) | (refine OpsT.go ?_; (conv => arg 7; whnf)) | (with_reducible first | refine Stp.orF ?_) | ((with_reducible refine Stp.isNe ?_); first | refine Stp.neF ?_) | refine Stp.pure rfl ?_ | refine PutK.mk' rfl ?_ | refine Ops.nil ?_ | ((with_reducible refine Look.id ?_); refine Look.auto ?_ (by repeat first | exact HGet.hit); try (conv => arg 7; whnf)) | ((with_reducible refine Side.id ?_); first | refine Side.auto ?_) | ((with_reducible refine Br.id ?_); first | (with_reducible first | refine br_false rfl ?_)) | ((with_reducible refine SemWp.id ?_); first | refine sem_seq ?_ | refine sem_region rfl ?_ | refine sem_cond rfl ?_ | refine sem_block ?_ | refine sem_skip ?_) | ((with_reducible refine qThen.id ?_); first | refine qThen.go ?_) | refine Stp.valS ?_ | refine Stp.look ?_ | refine Stp.eff ?_ | (refine newN (fun r hr => ?_); simp only [keys, List.nil_append, List.cons_append, List.map_cons, List.map_nil, List.mem_cons, List.not_mem_nil, not_or, or_false, not_false_eq_true] at hr)
  refine sem_loop cx (ι := Nat) (fun i => i ≤ eg.length ∧ (eg.take i).all (fun a => vOk x w a && decide (valZ a x w ≤ 0)) = true) (fun i => [(1, .sure, LIs x), (2, .sure, LIs w), (3, .sure, .ptr r 0), (8, .sure, ii i)]) (fun i => [(r, .cells [ii fr, ii to, ii m, LAs eg, LAs es, LBs ep] 46)]) (fun i => eg.length - i) 0 ⟨Nat.zero_le _, rfl⟩ (by repeat' first | exact Sub.nil _ | refine Sub.auto ?_) (Subp.of_eq rfl) ?_
  rintro i ⟨i1, i2⟩
  by_cases hi : i < eg.length
  · have g1 := getD_aff (l := eg) (k := i) (n := i) rfl hi
    have t1 := all_take (p := fun a => vOk x w a && decide (valZ a x w ≤ 0)) hi
    have n1 := all_no (p := fun a => vOk x w a && decide (valZ a x w ≤ 0)) hi
    have V := rValue_spec h40 h41 _ x w (sma_getD hg i) hx hw nx nw
    generalize eg.getD i ga0 = a at *
    cases ho : vOk x w a with
    | false =>
      rw [valV_no ho] at V
      have hf : gb = false := by rw [hB, n1 (by rw [ho]; rfl)]; rfl
      subst hf
      clear hB n1 t1
      repeat' first | refine Ops.tag rfl ?_ | (with_reducible first | refine OpsT.andF ?_ | refine OpsT.no ?_ | refine OpsT.no' ?_) | (refine OpsT.go ?_; (conv => arg 7; whnf)) | (with_reducible first | refine Stp.orT ?_) | ((with_reducible refine Stp.isDec ?_); first | refine Stp.decT ?_) | ((with_reducible refine Stp.isNe ?_); first | refine Stp.neT ?_) | refine Stp.pure rfl ?_ | ((with_reducible refine PutK.isSet ?_); refine PutK.set (by repeat first | exact HsetIs.hit) ?_) | refine PutK.mk' rfl ?_ | refine Ops.nil ?_ | ((with_reducible refine Look.id ?_); refine Look.auto ?_ (by repeat first | exact HGet.hit); try (conv => arg 7; whnf)) | ((with_reducible refine Side.id ?_); first | refine Side.auto ?_) | ((with_reducible refine Br.id ?_); first | (with_reducible first | refine br_true rfl ?_)) | ((with_reducible refine SemWp.id ?_); first | refine sem_seq ?_ | refine sem_region rfl ?_ | refine sem_cond rfl ?_ | refine sem_block ?_ | refine sem_ret ?_ | refine sem_skip ?_) | ((with_reducible refine qThen.id ?_); first | refine qThen.go ?_ | refine qThen.ret ?_) | ((with_reducible refine hinBlock.id ?_); first | refine hinBlock.ret ?_) | ((with_reducible refine hround.id ?_); first | refine hround.ret ?_) | refine Stp.valS ?_ | refine Stp.look ?_ | refine Stp.call ?_ | refine Stp.eff ?_ | ((with_reducible refine CallWp.id ?_); first | refine Pur.call (V) ?_) | (refine newN (fun r hr => ?_); simp only [keys, List.nil_append, List.cons_append, List.map_cons, List.map_nil, List.mem_cons, List.not_mem_nil, not_or, or_false, not_false_eq_true] at hr) | ((with_reducible refine BodyR.id ?_); first | refine BodyR.ret ?_) | ((with_reducible refine ResG.id ?_); first | refine ResG.tmp rfl ?_ | refine ResG.nil ?_) | ((with_reducible refine Upd.id ?_); first | (refine Upd.lit rfl ?_; (conv => whnf))) | rw [g1]
      exact Fin.weak weakGo
    | true =>
      rw [valV_ok ho] at V
      have ml : ((ofZ (valZ a x w)).l.map u32).length = (nl (valZ a x w).natAbs).length := by rw [List.length_map]; rfl
      have hneg : (ofZ (valZ a x w)).neg = decide (valZ a x w < 0) := rfl
      by_cases hz : valZ a x w ≤ 0
      · have t1' : ((eg.take (i + 1)).all fun a => vOk x w a && decide (valZ a x w ≤ 0)) = true := by rw [t1, i2, ho, decide_eq_true hz]; rfl
        clear n1 t1
        by_cases h0 : valZ a x w = 0
        · have ml0 : ((ofZ (valZ a x w)).l.map u32).length = 0 := by rw [ml, h0]; simp [nl_zero]
          generalize valZ a x w = z at *
          repeat' first | refine Ops.tag rfl ?_ | ((with_reducible first | refine OpsT.yes' ?_); (conv => arg 7; whnf)) | (with_reducible first | refine OpsT.no ?_) | (refine OpsT.go ?_; (conv => arg 7; whnf)) | (with_reducible first | refine Stp.orF ?_ | refine Stp.andF ?_) | ((with_reducible refine Stp.isSum ?_); refine Stp.sum ?_) | ((with_reducible refine Stp.isDec ?_); first | refine Stp.decT ?_ | refine Stp.decF ?_) | ((with_reducible refine Stp.isNe ?_); first | refine Stp.neF ?_) | refine Stp.pure rfl ?_ | ((with_reducible refine PutK.isSet ?_); refine PutK.set (by repeat first | exact HsetIs.hit) ?_) | refine PutK.mk' rfl ?_ | refine Ops.nil ?_ | ((with_reducible refine Look.id ?_); refine Look.auto ?_ (by repeat first | exact HGet.hit); try (conv => arg 7; whnf)) | ((with_reducible refine Side.id ?_); first | refine Side.auto ?_) | ((with_reducible refine Br.id ?_); first | (with_reducible first | refine br_true rfl ?_ | refine br_false rfl ?_)) | ((with_reducible refine SemWp.id ?_); first | refine sem_seq ?_ | refine sem_region rfl ?_ | refine sem_cond rfl ?_ | refine sem_block ?_ | refine sem_skip ?_) | ((with_reducible refine qThen.id ?_); first | refine qThen.go ?_) | ((with_reducible refine hinBlock.id ?_); first | refine hinBlock.go ?_) | ((with_reducible refine hround.id ?_); first | refine hround.go ?_) | refine Stp.valS ?_ | refine Stp.look ?_ | refine Stp.call ?_ | refine Stp.eff ?_ | ((with_reducible refine CallWp.id ?_); first | refine Pur.call (V) ?_) | (refine newN (fun r hr => ?_); simp only [keys, List.nil_append, List.cons_append, List.map_cons, List.map_nil, List.mem_cons, List.not_mem_nil, not_or, or_false, not_false_eq_true] at hr) | ((with_reducible refine Upd.id ?_); first | (refine Upd.lit rfl ?_; (conv => whnf))) | rw [g1]
          refine Fin.mk ⟨i + 1, ⟨by omega, t1'⟩, by omega, by repeat' first | exact Sub.nil _ | refine Sub.auto ?_, ?_⟩
          exact (Subp.refl _).skip _
        · have ml0 : 0 < ((ofZ (valZ a x w)).l.map u32).length := by rw [ml]; exact nl_len_pos (by omega)
          have hb : (!(ofZ (valZ a x w)).neg) = false := by rw [hneg, decide_eq_true (by omega)]; rfl
          generalize valZ a x w = z at *
          repeat' first | (with_reducible first | refine Stp.rwB (hb) ?_) | refine Ops.tag rfl ?_ | ((with_reducible first | refine OpsT.yes ?_ | refine OpsT.yes' ?_); (conv => arg 7; whnf)) | (refine OpsT.go ?_; (conv => arg 7; whnf)) | (with_reducible first | refine Stp.orF ?_ | refine Stp.andT ?_) | ((with_reducible refine Stp.isSum ?_); refine Stp.sum ?_) | ((with_reducible refine Stp.isDec ?_); first | refine Stp.decT ?_) | ((with_reducible refine Stp.isNe ?_); first | refine Stp.neF ?_) | refine Stp.pure rfl ?_ | ((with_reducible refine PutK.isSet ?_); refine PutK.set (by repeat first | exact HsetIs.hit) ?_) | refine PutK.mk' rfl ?_ | refine Ops.nil ?_ | ((with_reducible refine Look.id ?_); refine Look.auto ?_ (by repeat first | exact HGet.hit); try (conv => arg 7; whnf)) | ((with_reducible refine Side.id ?_); first | refine Side.auto ?_) | ((with_reducible refine Br.id ?_); first | (with_reducible first | refine br_true rfl ?_ | refine br_false rfl ?_)) | ((with_reducible refine SemWp.id ?_); first | refine sem_seq ?_ | refine sem_region rfl ?_ | refine sem_cond rfl ?_ | refine sem_block ?_ | refine sem_skip ?_) | ((with_reducible refine qThen.id ?_); first | refine qThen.go ?_) | ((with_reducible refine hinBlock.id ?_); first | refine hinBlock.go ?_) | ((with_reducible refine hround.id ?_); first | refine hround.go ?_) | refine Stp.valS ?_ | refine Stp.look ?_ | refine Stp.call ?_ | refine Stp.eff ?_ | ((with_reducible refine CallWp.id ?_); first | refine Pur.call (V) ?_) | (refine newN (fun r hr => ?_); simp only [keys, List.nil_append, List.cons_append, List.map_cons, List.map_nil, List.mem_cons, List.not_mem_nil, not_or, or_false, not_false_eq_true] at hr) | ((with_reducible refine Upd.id ?_); first | (refine Upd.lit rfl ?_; (conv => whnf))) | rw [g1]
          refine Fin.mk ⟨i + 1, ⟨by omega, t1'⟩, by omega, by repeat' first | exact Sub.nil _ | refine Sub.auto ?_, ?_⟩
          exact (Subp.refl _).skip _
      · have hf : gb = false := by rw [hB, n1 (by rw [ho, decide_eq_false hz]; rfl)]; rfl
        subst hf
        clear hB n1 t1
        have ml0 : 0 < ((ofZ (valZ a x w)).l.map u32).length := by rw [ml]; exact nl_len_pos (by omega)
        have hb : (!(ofZ (valZ a x w)).neg) = true := by rw [hneg, decide_eq_false (by omega)]; rfl
        generalize valZ a x w = z at *
        repeat' first | (with_reducible first | refine Stp.rwB (hb) ?_) | refine Ops.tag rfl ?_ | ((with_reducible first | refine OpsT.yes ?_ | refine OpsT.yes' ?_); (conv => arg 7; whnf)) | (refine OpsT.go ?_; (conv => arg 7; whnf)) | (with_reducible first | refine Stp.orF ?_ | refine Stp.andT ?_) | ((with_reducible refine Stp.isDec ?_); first | refine Stp.decT ?_) | ((with_reducible refine Stp.isNe ?_); first | refine Stp.neF ?_) | refine Stp.pure rfl ?_ | ((with_reducible refine PutK.isSet ?_); refine PutK.set (by repeat first | exact HsetIs.hit) ?_) | refine PutK.mk' rfl ?_ | refine Ops.nil ?_ | ((with_reducible refine Look.id ?_); refine Look.auto ?_ (by repeat first | exact HGet.hit); try (conv => arg 7; whnf)) | ((with_reducible refine Side.id ?_); first | refine Side.auto ?_) | ((with_reducible refine Br.id ?_); first | (with_reducible first | refine br_true rfl ?_)) | ((with_reducible refine SemWp.id ?_); first | refine sem_seq ?_ | refine sem_region rfl ?_ | refine sem_cond rfl ?_ | refine sem_block ?_ | refine sem_ret ?_ | refine sem_skip ?_) | ((with_reducible refine qThen.id ?_); first | refine qThen.go ?_ | refine qThen.ret ?_) | ((with_reducible refine hinBlock.id ?_); first | refine hinBlock.ret ?_) | ((with_reducible refine hround.id ?_); first | refine hround.ret ?_) | refine Stp.valS ?_ | refine Stp.look ?_ | refine Stp.call ?_ | refine Stp.eff ?_ | ((with_reducible refine CallWp.id ?_); first | refine Pur.call (V) ?_) | (refine newN (fun r hr => ?_); simp only [keys, List.nil_append, List.cons_append, List.map_cons, List.map_nil, List.mem_cons, List.not_mem_nil, not_or, or_false, not_false_eq_true] at hr) | ((with_reducible refine BodyR.id ?_); first | refine BodyR.ret ?_) | ((with_reducible refine ResG.id ?_); first | refine ResG.tmp rfl ?_ | refine ResG.nil ?_) | ((with_reducible refine Upd.id ?_); first | (refine Upd.lit rfl ?_; (conv => whnf))) | rw [g1]
        exact Fin.weak weakGo
  · have : i = eg.length := by omega
    subst this
    rw [List.take_length] at i2
    rw [i2, Bool.true_and] at hB
    clear i2
    repeat' first | refine Ops.tag rfl ?_ | (refine OpsT.go ?_; (conv => arg 7; whnf)) | ((with_reducible refine Stp.isDec ?_); first | refine Stp.decF ?_) | refine Stp.pure rfl ?_ | refine Ops.nil ?_ | ((with_reducible refine Look.id ?_); refine Look.auto ?_ (by repeat first | exact HGet.hit); try (conv => arg 7; whnf)) | ((with_reducible refine Side.id ?_); first | refine Side.auto ?_) | ((with_reducible refine Br.id ?_); first | (with_reducible first | refine br_false rfl ?_)) | ((with_reducible refine SemWp.id ?_); first | refine sem_seq ?_ | refine sem_region rfl ?_ | refine sem_cond rfl ?_ | refine sem_block ?_ | refine sem_exit ?_) | ((with_reducible refine qThen.id ?_); first | refine qThen.go ?_) | refine Stp.valS ?_ | refine Stp.look ?_
    refine sem_nil_own cx 11 2 rfl ?_
    intro rt hrt
    simp only [keys, List.map_cons, List.map_nil, List.mem_cons, List.not_mem_nil, not_or, or_false, not_false_eq_true] at hrt
    refine sem_loop cx (ι := Nat) (fun j => j ≤ es.length ∧ (es.take j).all (vOk x w) = true) (fun j => [(1, .sure, LIs x), (2, .sure, LIs w), (3, .sure, .ptr r 0), (12, .sure, ii j), (11, .sure, .list (.own rt 0) 2 (((es.take j).map fun a => ofZ (valZ a x w)).map encI))]) (fun j => [(rt, .tok j), (r, .cells [ii fr, ii to, ii m, LAs eg, LAs es, LBs ep] 46)]) (fun j => es.length - j) 0 ⟨Nat.zero_le _, rfl⟩ (by repeat' first | exact Sub.nil _ | refine Sub.auto ?_) (Subp.of_eq rfl) ?_
    rintro j ⟨j1, j2⟩
    have ml : (((es.take j).map fun a => ofZ (valZ a x w)).map encI).length = j := by simp; omega
    by_cases hj : j < es.length
    · have g1 := getD_aff (l := es) (k := j) (n := j) rfl hj
      have t1 := all_take (p := vOk x w) hj
      have t2 := map_take (f := fun a => ofZ (valZ a x w)) hj
      have n1 := all_no (p := vOk x w) hj
      have V := rValue_spec h40 h41 _ x w (sma_getD hs j) hx hw nx nw
      generalize es.getD j ga0 = a at *
      cases ho : vOk x w a with
      | false =>
        rw [valV_no ho] at V
        have hf : gb = false := by rw [hB, n1 ho]
        subst hf
        clear hB n1 t1 t2
        repeat' first | refine Ops.tag rfl ?_ | (refine OpsT.go ?_; (conv => arg 7; whnf)) | ((with_reducible refine Stp.isDec ?_); first | refine Stp.decT ?_) | ((with_reducible refine Stp.isNe ?_); first | refine Stp.neT ?_) | refine Stp.pure rfl ?_ | ((with_reducible refine PutK.isSet ?_); refine PutK.set (by repeat first | exact HsetIs.hit) ?_) | refine PutK.mk' rfl ?_ | refine Ops.nil ?_ | ((with_reducible refine Look.id ?_); refine Look.auto ?_ (by repeat first | exact HGet.hit | apply HGet.miss (by omega)); try (conv => arg 7; whnf)) | ((with_reducible refine Side.id ?_); first | refine Side.auto ?_) | ((with_reducible refine Br.id ?_); first | (with_reducible first | refine br_true rfl ?_)) | ((with_reducible refine SemWp.id ?_); first | refine sem_seq ?_ | refine sem_region rfl ?_ | refine sem_cond rfl ?_ | refine sem_block ?_ | refine sem_ret ?_ | refine sem_skip ?_) | ((with_reducible refine qThen.id ?_); first | refine qThen.go ?_ | refine qThen.ret ?_) | ((with_reducible refine hinBlock.id ?_); first | refine hinBlock.ret ?_) | ((with_reducible refine hround.id ?_); first | refine hround.ret ?_) | refine Stp.valS ?_ | refine Stp.look ?_ | refine Stp.call ?_ | refine Stp.eff ?_ | ((with_reducible refine CallWp.id ?_); first | refine Pur.call (V) ?_) | (refine newN (fun r hr => ?_); simp only [keys, List.nil_append, List.cons_append, List.map_cons, List.map_nil, List.mem_cons, List.not_mem_nil, not_or, or_false, not_false_eq_true] at hr) | ((with_reducible refine BodyR.id ?_); first | refine BodyR.ret ?_) | ((with_reducible refine ResG.id ?_); first | refine ResG.tmp rfl ?_ | refine ResG.nil ?_) | ((with_reducible refine Upd.id ?_); first | (refine Upd.lit rfl ?_; (conv => whnf))) | rw [g1]
        exact Fin.weak weakGo
      | true =>
        rw [valV_ok ho] at V
        clear n1
        repeat' first | refine Ops.tag rfl ?_ | (refine OpsT.go ?_; (conv => arg 7; whnf)) | ((with_reducible refine Stp.isSum ?_); refine Stp.sum ?_) | ((with_reducible refine Stp.isDec ?_); first | refine Stp.decT ?_) | ((with_reducible refine Stp.isNe ?_); first | refine Stp.neF ?_) | refine Stp.pure rfl ?_ | ((with_reducible refine PutK.isSet ?_); refine PutK.set (by repeat first | exact HsetIs.hit | apply HsetIs.miss (by omega)) ?_) | refine PutK.mk' rfl ?_ | refine Ops.nil ?_ | ((with_reducible refine Look.id ?_); refine Look.auto ?_ (by repeat first | exact HGet.hit | apply HGet.miss (by omega)); try (conv => arg 7; whnf)) | ((with_reducible refine Side.id ?_); first | refine Side.auto ?_) | ((with_reducible refine Br.id ?_); first | (with_reducible first | refine br_true rfl ?_ | refine br_false rfl ?_)) | ((with_reducible refine SemWp.id ?_); first | refine sem_seq ?_ | refine sem_region rfl ?_ | refine sem_cond rfl ?_ | refine sem_block ?_ | refine sem_skip ?_) | ((with_reducible refine qThen.id ?_); first | refine qThen.go ?_) | ((with_reducible refine hinBlock.id ?_); first | refine hinBlock.go ?_) | ((with_reducible refine hround.id ?_); first | refine hround.go ?_) | refine Stp.valS ?_ | refine Stp.look ?_ | refine Stp.call ?_ | refine Stp.eff ?_ | ((with_reducible refine CallWp.id ?_); first | refine Pur.call (V) ?_) | (refine newN (fun r hr => ?_); simp only [keys, List.nil_append, List.cons_append, List.map_cons, List.map_nil, List.mem_cons, List.not_mem_nil, not_or, or_false, not_false_eq_true] at hr) | ((with_reducible refine Upd.id ?_); first | (refine Upd.lit rfl ?_; (conv => whnf))) | rw [g1]
        refine Fin.mk ⟨j + 1, ⟨by omega, by rw [t1, j2, ho]; rfl⟩, by omega, Sub.cons rfl rfl (Sub.cons rfl rfl (Sub.cons rfl rfl (Sub.cons rfl rfl (Sub.cons rfl (by rw [t2, List.map_append]; rfl) (Sub.nil _))))), ?_⟩
        exact (Subp.refl _).skip _
    · have : j = es.length := by omega
      subst this
      rw [List.take_length] at j2
      rw [j2] at hB
      subst hB
      repeat' first | refine Ops.tag rfl ?_ | (refine OpsT.go ?_; (conv => arg 7; whnf)) | ((with_reducible refine Stp.isDec ?_); first | refine Stp.decF ?_) | refine Stp.pure rfl ?_ | refine Ops.nil ?_ | ((with_reducible refine Look.id ?_); refine Look.auto ?_ (by repeat first | exact HGet.hit | apply HGet.miss (by omega)); try (conv => arg 7; whnf)) | ((with_reducible refine Side.id ?_); first | refine Side.auto ?_) | ((with_reducible refine Br.id ?_); first | (with_reducible first | refine br_false rfl ?_)) | ((with_reducible refine SemWp.id ?_); first | refine sem_seq ?_ | refine sem_region rfl ?_ | refine sem_cond rfl ?_ | refine sem_exit ?_ | refine sem_ret ?_) | ((with_reducible refine qThen.id ?_); first | refine qThen.go ?_) | refine Stp.valS ?_ | refine Stp.look ?_ | ((with_reducible refine BodyR.id ?_); first | refine BodyR.ret ?_) | ((with_reducible refine ResG.id ?_); first | refine ResG.tmp rfl ?_ | refine ResG.nil ?_)
      rw [List.take_length]
      exact Fin.weak (Weaker.tup (.cons (Weaker.tok _ _ _) (.cons (.refl _) .nil)))
end Go.Proofs.Hk

import Derived.Test.YtmgcmljldggllaaN18
set_option linter.unusedSimpArgs false
set_option linter.unusedVariables false
namespace Go.Proofs.Hk
open Go Go.Proofs

def lowOf (e : GE) (a : GA) : GLow := ⟨[], [], [e, ⟨0, 0, 0, [a], [], []⟩], []⟩
theorem bigLow_of (e : GE) (a : GA) : bigLow (lowOf e a) = (bigE e || bigA a) := by
  simp [bigLow, lowOf, bigE, bigAs]
  try (cases bigA a <;> simp)
theorem smA_of {a : GA} (h : bigA a = false) (hx : ∀ g ∈ a.x, Lim g.l) (hw : ∀ g ∈ a.w, Lim g.l) (hk : Lim a.k.l) : SmA a := by
  simp only [bigA, Bool.or_eq_false_iff, decide_eq_false_iff_not, bigI, bigL, List.any_eq_false, decide_eq_true_eq] at h
  obtain ⟨⟨⟨⟨h1, h2⟩, h3⟩, h4⟩, h5⟩ := h
  exact ⟨fun g hg => ⟨hx g hg, by have := h4 g hg; omega⟩, fun g hg => ⟨hw g hg, by have := h5 g hg; omega⟩, ⟨hk, by omega⟩, by omega, by omega⟩
theorem smL_of {l : List GI} (h : bigL l = false) (hl : ∀ g ∈ l, Lim g.l) : ∀ g ∈ l, Sm g := fun g hg => by
  simp only [bigL, bigI, List.any_eq_false, decide_eq_true_eq] at h
  exact ⟨hl g hg, by have := h g hg; omega⟩
/-- The limbs of a structure are limbs. -/
structure LimA (a : GA) : Prop where
  x : ∀ g ∈ a.x, Lim g.l
  w : ∀ g ∈ a.w, Lim g.l
  k : Lim a.k.l
theorem smE_of {e : GE} (h : bigE e = false) (hg : ∀ a ∈ e.g, LimA a) (hs : ∀ a ∈ e.s, LimA a) : SmE e := by
  simp only [bigE, Bool.or_eq_false_iff, decide_eq_false_iff_not, bigAs, List.any_eq_false] at h
  obtain ⟨⟨⟨h1, h2⟩, h3⟩, h4⟩ := h
  exact ⟨fun a ha => smA_of (by simpa using h3 a ha) (hg a ha).x (hg a ha).w (hg a ha).k, fun a ha => smA_of (by simpa using h4 a ha) (hs a ha).x (hs a ha).w (hs a ha).k, by omega, by omega⟩
theorem valZ_ok {a : GA} {x w : List GI} (ha : SmA a) (hx : ∀ g ∈ x, Sm g) (hw : ∀ g ∈ w, Sm g) : (ofZ (valZ a x w)).l.length ≤ 1000000 := by
  have b1 := psum_lt (k := 40) (by omega) ha.x (fun g h => (hx g h).to (by omega)) ha.lx
  have b2 := psum_lt (k := 40) (by omega) ha.w (fun g h => (hw g h).to (by omega)) ha.lw
  exact (ofZ_ok (B82 (bnd (bnd b1 b2) (bnd1 ha.k)) (by omega)) (by omega)).2
theorem valV_form {a : GA} {x w : List GI} (ha : SmA a) (hx : ∀ g ∈ x, Sm g) (hw : ∀ g ∈ w, Sm g) : ∃ v f, valV a x w = .tup [encI v, ii f] ∧ v.l.length ≤ 1000000 := by
  unfold valV
  split
  · exact ⟨_, _, rfl, valZ_ok ha hx hw⟩
  · exact ⟨_, _, rfl, by simp [gi0]⟩
theorem goV_form {e : GE} {x w : List GI} (he : SmE e) (hx : ∀ g ∈ x, Sm g) (hw : ∀ g ∈ w, Sm g) : ∃ l o, goV e x w = .tup [LIs l, bb o] ∧ (∀ g ∈ l, g.l.length ≤ 1099511627776) ∧ l.length ≤ 1000000 := by
  unfold goV
  split
  · refine ⟨_, _, rfl, fun g hg => ?_, by rw [List.length_map]; exact Nat.le_trans he.ls (by omega)⟩
    obtain ⟨a, ha, rfl⟩ := List.mem_map.1 hg
    exact Nat.le_trans (valZ_ok (he.s a ha) hx hw) (by omega)
  · exact ⟨_, _, rfl, fun g hg => by simp at hg, by simp⟩
theorem rSame_self {g : GI} (h : g.l.length ≤ 1000000) : Pur cx 21 [encI g, encI g] (bb true) := by
  have := rSame_spec g g (by omega)
  rwa [BEq.rfl, BEq.rfl, Bool.and_self] at this
theorem lenLow_of {e : GE} {a : GA} (he : LenE e) (ha : LenA a) : LenLow (lowOf e a) :=
  ⟨by simp [lowOf], by simp [lowOf], by simp [lowOf], by simp [lowOf], fun y hy => by
    simp only [lowOf, List.mem_cons, List.not_mem_nil, or_false] at hy
    rcases hy with rfl | rfl
    · exact he
    · exact ⟨fun b hb => by simp only [List.mem_singleton] at hb; subst hb; exact ha, fun b hb => by simp at hb, by simp, by simp⟩, fun y hy => by simp [lowOf] at hy⟩
set_option maxHeartbeats 4000000 in
theorem WalkGoes_spec (a : GA) (e : GE) (x w : List GI) (la : LimA a) (leg : ∀ a ∈ e.g, LimA a) (les : ∀ a ∈ e.s, LimA a) (lx : ∀ g ∈ x, Lim g.l) (lw : ∀ g ∈ w, Lim g.l) (na : LenA a) (ne : LenE e) (nx : x.length ≤ 9223372036854775807) (nw : w.length ≤ 9223372036854775807) :
    Pur cx 7 [encA a, encE e, LIs x, LIs w] (bb true) := by
  have AW := awake16_spec
  have mx : (x.map encI).length = x.length := by simp
  have mw : (w.map encI).length = w.length := by simp
  have GX := Great1_spec x nx
  have GW := Great1_spec w nw
  have LG := GreatLow_spec (lowOf e a) (lenLow_of ne na)
  rw [bigLow_of] at LG
  have GV := fun he (hx : ∀ g ∈ x, Sm g) hw n1 n2 => Go_spec (n := 40) (by omega) (by omega) e x w he (fun g h => Sm.to (hx g h) (by omega)) hw n1 n2
  have RV := fun he (hx : ∀ g ∈ x, Sm g) hw n1 n2 => rGo_spec (n := 40) (by omega) (by omega) e x w he (fun g h => Sm.to (hx g h) (by omega)) hw n1 n2
  have sme := fun h => smE_of (e := e) h leg les
  obtain ⟨fr, to, m, g, s, p⟩ := e
  have mg : (g.map encA).length = g.length := by simp
  have ms : (s.map encA).length = s.length := by simp
  have W0 : Weaker (.agg [LIs a.x, LIs a.w, bb a.k.neg, LL a.k.l]) (encA a) := .refl _
  have W1 : Weaker (.list .full 4 [.agg [LIs a.x, LIs a.w, bb a.k.neg, LL a.k.l]]) (LAs [a]) := Weaker.list (.cons W0 (by simp [HV.kd]) .nil)
  have W2 : Weaker (.agg [ii 0, ii 0, ii 0, .list .full 4 [.agg [LIs a.x, LIs a.w, bb a.k.neg, LL a.k.l]], .v (.slice none 0 0), .v (.slice none 0 0)]) (encE ⟨0, 0, 0, [a], [], []⟩) :=
    Weaker.agg (.cons (.refl _) rfl (.cons (.refl _) rfl (.cons (.refl _) rfl (.cons W1 rfl (.cons (Weaker.nil 4) rfl (.cons (Weaker.nil 1) rfl .nil))))))
  have W3 : Weaker (.list .full 6 [.agg [ii fr, ii to, ii m, LAs g, LAs s, LBs p], .agg [ii 0, ii 0, ii 0, .list .full 4 [.agg [LIs a.x, LIs a.w, bb a.k.neg, LL a.k.l]], .v (.slice none 0 0), .v (.slice none 0 0)]]) (LEs [⟨fr, to, m, g, s, p⟩, ⟨0, 0, 0, [a], [], []⟩]) := Weaker.list (.cons (.refl _) (by simp [HV.kd]) (.cons W2 (by simp [HV.kd]) .nil))
  have W4 : Weaker (.agg [.v (.slice none 0 0), .v (.slice none 0 0), .list .full 6 [.agg [ii fr, ii to, ii m, LAs g, LAs s, LBs p], .agg [ii 0, ii 0, ii 0, .list .full 4 [.agg [LIs a.x, LIs a.w, bb a.k.neg, LL a.k.l]], .v (.slice none 0 0), .v (.slice none 0 0)]], .v (.slice none 0 0)]) (encLow (lowOf ⟨fr, to, m, g, s, p⟩ a)) :=
    Weaker.agg (.cons (Weaker.nil 2) rfl (.cons (Weaker.nil 1) rfl (.cons W3 rfl (.cons (Weaker.nil 4) rfl .nil))))
  have LP := LG.args (.cons W4 .nil)
  change Pur cx _ [encA a, encE' fr to m g s p, LIs x, LIs w] _
  refine Pur.of (sem_calls' cx (fn := Try.f7) rfl rfl rfl rfl ?_)
  by_cases h1 : 60 < g.length
  · repeat' first | refine Ops.tag rfl ?_ | (with_reducible first | refine OpsT.no' ?_) | (refine OpsT.go ?_; (conv => arg 7; whnf)) | (with_reducible first | refine Stp.orT ?_) | ((with_reducible refine Stp.isDec ?_); first | refine Stp.decT ?_) | refine Stp.pure rfl ?_ | refine PutK.mk' rfl ?_ | refine Ops.nil ?_ | ((with_reducible refine Look.id ?_); refine Look.auto ?_ (by repeat first | exact HGet.hit); try (conv => arg 7; whnf)) | ((with_reducible refine Side.id ?_); first | refine Side.auto ?_) | ((with_reducible refine Br.id ?_); first | (with_reducible first | refine br_true rfl ?_)) | ((with_reducible refine SemWp.id ?_); first | refine sem_seq ?_ | refine sem_region rfl ?_ | refine sem_cond rfl ?_ | refine sem_ret ?_) | ((with_reducible refine qThen.id ?_); first | refine qThen.go ?_ | refine qThen.ret ?_) | refine Stp.valS ?_ | refine Stp.look ?_ | refine Stp.call ?_ | refine Stp.eff ?_ | ((with_reducible refine CallWp.id ?_); first | refine Pur.call (AW) ?_) | (refine newN (fun r hr => ?_); simp only [keys, List.nil_append, List.cons_append, List.map_cons, List.map_nil, List.mem_cons, List.not_mem_nil, not_or, or_false, not_false_eq_true] at hr) | ((with_reducible refine BodyR.id ?_); first | refine BodyR.ret ?_) | ((with_reducible refine ResG.id ?_); first | refine ResG.tmp rfl ?_ | refine ResG.nil ?_)
    exact Fin.mk rfl
  by_cases h2 : 60 < s.length
  · repeat' first | refine Ops.tag rfl ?_ | ((with_reducible first | refine OpsT.yes' ?_); (conv => arg 7; whnf)) | (with_reducible first | refine OpsT.no' ?_) | (refine OpsT.go ?_; (conv => arg 7; whnf)) | (with_reducible first | refine Stp.orF ?_ | refine Stp.orT ?_) | ((with_reducible refine Stp.isDec ?_); first | refine Stp.decT ?_ | refine Stp.decF ?_) | refine Stp.pure rfl ?_ | refine PutK.mk' rfl ?_ | refine Ops.nil ?_ | ((with_reducible refine Look.id ?_); refine Look.auto ?_ (by repeat first | exact HGet.hit); try (conv => arg 7; whnf)) | ((with_reducible refine Side.id ?_); first | refine Side.auto ?_) | ((with_reducible refine Br.id ?_); first | (with_reducible first | refine br_true rfl ?_)) | ((with_reducible refine SemWp.id ?_); first | refine sem_seq ?_ | refine sem_region rfl ?_ | refine sem_cond rfl ?_ | refine sem_ret ?_) | ((with_reducible refine qThen.id ?_); first | refine qThen.go ?_ | refine qThen.ret ?_) | refine Stp.valS ?_ | refine Stp.look ?_ | refine Stp.call ?_ | refine Stp.eff ?_ | ((with_reducible refine CallWp.id ?_); first | refine Pur.call (AW) ?_) | (refine newN (fun r hr => ?_); simp only [keys, List.nil_append, List.cons_append, List.map_cons, List.map_nil, List.mem_cons, List.not_mem_nil, not_or, or_false, not_false_eq_true] at hr) | ((with_reducible refine BodyR.id ?_); first | refine BodyR.ret ?_) | ((with_reducible refine ResG.id ?_); first | refine ResG.tmp rfl ?_ | refine ResG.nil ?_)
    exact Fin.mk rfl
  by_cases h3 : 60 < x.length
  · repeat' first | refine Ops.tag rfl ?_ | ((with_reducible first | refine OpsT.yes' ?_); (conv => arg 7; whnf)) | (with_reducible first | refine OpsT.no' ?_) | (refine OpsT.go ?_; (conv => arg 7; whnf)) | (with_reducible first | refine Stp.orF ?_ | refine Stp.orT ?_) | ((with_reducible refine Stp.isDec ?_); first | refine Stp.decT ?_ | refine Stp.decF ?_) | refine Stp.pure rfl ?_ | refine PutK.mk' rfl ?_ | refine Ops.nil ?_ | ((with_reducible refine Look.id ?_); refine Look.auto ?_ (by repeat first | exact HGet.hit); try (conv => arg 7; whnf)) | ((with_reducible refine Side.id ?_); first | refine Side.auto ?_) | ((with_reducible refine Br.id ?_); first | (with_reducible first | refine br_true rfl ?_)) | ((with_reducible refine SemWp.id ?_); first | refine sem_seq ?_ | refine sem_region rfl ?_ | refine sem_cond rfl ?_ | refine sem_ret ?_) | ((with_reducible refine qThen.id ?_); first | refine qThen.go ?_ | refine qThen.ret ?_) | refine Stp.valS ?_ | refine Stp.look ?_ | refine Stp.call ?_ | refine Stp.eff ?_ | ((with_reducible refine CallWp.id ?_); first | refine Pur.call (AW) ?_) | (refine newN (fun r hr => ?_); simp only [keys, List.nil_append, List.cons_append, List.map_cons, List.map_nil, List.mem_cons, List.not_mem_nil, not_or, or_false, not_false_eq_true] at hr) | ((with_reducible refine BodyR.id ?_); first | refine BodyR.ret ?_) | ((with_reducible refine ResG.id ?_); first | refine ResG.tmp rfl ?_ | refine ResG.nil ?_)
    exact Fin.mk rfl
  by_cases h4 : 60 < w.length
  · repeat' first | refine Ops.tag rfl ?_ | ((with_reducible first | refine OpsT.yes' ?_); (conv => arg 7; whnf)) | (with_reducible first | refine OpsT.no' ?_) | (refine OpsT.go ?_; (conv => arg 7; whnf)) | (with_reducible first | refine Stp.orF ?_ | refine Stp.orT ?_) | ((with_reducible refine Stp.isDec ?_); first | refine Stp.decT ?_ | refine Stp.decF ?_) | refine Stp.pure rfl ?_ | refine PutK.mk' rfl ?_ | refine Ops.nil ?_ | ((with_reducible refine Look.id ?_); refine Look.auto ?_ (by repeat first | exact HGet.hit); try (conv => arg 7; whnf)) | ((with_reducible refine Side.id ?_); first | refine Side.auto ?_) | ((with_reducible refine Br.id ?_); first | (with_reducible first | refine br_true rfl ?_)) | ((with_reducible refine SemWp.id ?_); first | refine sem_seq ?_ | refine sem_region rfl ?_ | refine sem_cond rfl ?_ | refine sem_ret ?_) | ((with_reducible refine qThen.id ?_); first | refine qThen.go ?_ | refine qThen.ret ?_) | refine Stp.valS ?_ | refine Stp.look ?_ | refine Stp.call ?_ | refine Stp.eff ?_ | ((with_reducible refine CallWp.id ?_); first | refine Pur.call (AW) ?_) | (refine newN (fun r hr => ?_); simp only [keys, List.nil_append, List.cons_append, List.map_cons, List.map_nil, List.mem_cons, List.not_mem_nil, not_or, or_false, not_false_eq_true] at hr) | ((with_reducible refine BodyR.id ?_); first | refine BodyR.ret ?_) | ((with_reducible refine ResG.id ?_); first | refine ResG.tmp rfl ?_ | refine ResG.nil ?_)
    exact Fin.mk rfl
  cases hb : bigE ⟨fr, to, m, g, s, p⟩ || bigA a with
  | true =>
    rw [hb] at LP
    clear hb GV RV sme
    repeat' first | refine Ops.tag rfl ?_ | ((with_reducible first | refine OpsT.yes' ?_); (conv => arg 7; whnf)) | (with_reducible first | refine OpsT.no' ?_) | (refine OpsT.go ?_; (conv => arg 7; whnf)) | (with_reducible first | refine Stp.orF ?_ | refine Stp.orT ?_) | ((with_reducible refine Stp.isDec ?_); first | refine Stp.decF ?_) | refine Stp.pure rfl ?_ | refine PutK.mk' rfl ?_ | refine Ops.nil ?_ | ((with_reducible refine Look.id ?_); refine Look.auto ?_ (by repeat first | exact HGet.hit | apply HGet.miss (by omega)); try (conv => arg 7; whnf)) | ((with_reducible refine Side.id ?_); first | refine Side.auto ?_) | ((with_reducible refine Br.id ?_); first | (with_reducible first | refine br_true rfl ?_)) | ((with_reducible refine SemWp.id ?_); first | refine sem_seq ?_ | refine sem_region rfl ?_ | refine sem_cond rfl ?_ | refine sem_ret ?_) | ((with_reducible refine qThen.id ?_); first | refine qThen.go ?_ | refine qThen.ret ?_) | refine Stp.valS ?_ | refine Stp.look ?_ | refine Stp.call ?_ | refine Stp.eff ?_ | ((with_reducible refine CallWp.id ?_); first | refine Pur.call (AW) ?_ | refine Pur.call (LP) ?_) | (refine newN (fun r hr => ?_); simp only [keys, List.nil_append, List.cons_append, List.map_cons, List.map_nil, List.mem_cons, List.not_mem_nil, not_or, or_false, not_false_eq_true] at hr) | ((with_reducible refine BodyR.id ?_); first | refine BodyR.ret ?_) | ((with_reducible refine ResG.id ?_); first | refine ResG.tmp rfl ?_ | refine ResG.nil ?_)
    exact Fin.mk rfl
  | false =>
    rw [hb] at LP
    obtain ⟨hb1, hb2⟩ := Bool.or_eq_false_iff.1 hb
    clear hb
    cases hx : bigL x with
    | true =>
      rw [hx] at GX
      clear hx GV RV sme hb1 hb2
      repeat' first | refine Ops.tag rfl ?_ | ((with_reducible first | refine OpsT.yes' ?_); (conv => arg 7; whnf)) | (with_reducible first | refine OpsT.no' ?_) | (refine OpsT.go ?_; (conv => arg 7; whnf)) | (with_reducible first | refine Stp.orF ?_ | refine Stp.orT ?_) | ((with_reducible refine Stp.isDec ?_); first | refine Stp.decF ?_) | refine Stp.pure rfl ?_ | refine PutK.mk' rfl ?_ | refine Ops.nil ?_ | ((with_reducible refine Look.id ?_); refine Look.auto ?_ (by repeat first | exact HGet.hit | apply HGet.miss (by omega)); try (conv => arg 7; whnf)) | ((with_reducible refine Side.id ?_); first | refine Side.auto ?_) | ((with_reducible refine Br.id ?_); first | (with_reducible first | refine br_true rfl ?_)) | ((with_reducible refine SemWp.id ?_); first | refine sem_seq ?_ | refine sem_region rfl ?_ | refine sem_cond rfl ?_ | refine sem_ret ?_) | ((with_reducible refine qThen.id ?_); first | refine qThen.go ?_ | refine qThen.ret ?_) | refine Stp.valS ?_ | refine Stp.look ?_ | refine Stp.call ?_ | refine Stp.eff ?_ | ((with_reducible refine CallWp.id ?_); first | refine Pur.call (AW) ?_ | refine Pur.call (LP) ?_ | refine Pur.call (GX) ?_) | (refine newN (fun r hr => ?_); simp only [keys, List.nil_append, List.cons_append, List.map_cons, List.map_nil, List.mem_cons, List.not_mem_nil, not_or, or_false, not_false_eq_true] at hr) | ((with_reducible refine BodyR.id ?_); first | refine BodyR.ret ?_) | ((with_reducible refine ResG.id ?_); first | refine ResG.tmp rfl ?_ | refine ResG.nil ?_)
      exact Fin.mk rfl
    | false =>
      rw [hx] at GX
      cases hw : bigL w with
      | true =>
        rw [hw] at GW
        clear hx hw GV RV sme hb1 hb2
        repeat' first | refine Ops.tag rfl ?_ | ((with_reducible first | refine OpsT.yes' ?_); (conv => arg 7; whnf)) | (refine OpsT.go ?_; (conv => arg 7; whnf)) | (with_reducible first | refine Stp.orF ?_) | ((with_reducible refine Stp.isDec ?_); first | refine Stp.decF ?_) | refine Stp.pure rfl ?_ | refine PutK.mk' rfl ?_ | refine Ops.nil ?_ | ((with_reducible refine Look.id ?_); refine Look.auto ?_ (by repeat first | exact HGet.hit | apply HGet.miss (by omega)); try (conv => arg 7; whnf)) | ((with_reducible refine Side.id ?_); first | refine Side.auto ?_) | ((with_reducible refine Br.id ?_); first | (with_reducible first | refine br_true rfl ?_)) | ((with_reducible refine SemWp.id ?_); first | refine sem_seq ?_ | refine sem_region rfl ?_ | refine sem_cond rfl ?_ | refine sem_ret ?_) | ((with_reducible refine qThen.id ?_); first | refine qThen.go ?_ | refine qThen.ret ?_) | refine Stp.valS ?_ | refine Stp.look ?_ | refine Stp.call ?_ | refine Stp.eff ?_ | ((with_reducible refine CallWp.id ?_); first | refine Pur.call (AW) ?_ | refine Pur.call (LP) ?_ | refine Pur.call (GX) ?_ | refine Pur.call (GW) ?_) | (refine newN (fun r hr => ?_); simp only [keys, List.nil_append, List.cons_append, List.map_cons, List.map_nil, List.mem_cons, List.not_mem_nil, not_or, or_false, not_false_eq_true] at hr) | ((with_reducible refine BodyR.id ?_); first | refine BodyR.ret ?_) | ((with_reducible refine ResG.id ?_); first | refine ResG.tmp rfl ?_ | refine ResG.nil ?_)
        exact Fin.mk rfl
      | false =>
        rw [hw] at GW
        have sx := smL_of hx lx
        have sw := smL_of hw lw
        have sa := smA_of hb2 la.x la.w la.k
        have G1 := GV (sme hb1) sx sw (by omega) (by omega)
        have G2 := RV (sme hb1) sx sw (by omega) (by omega)
        have V1 := Value_spec (n := 40) (by omega) (by omega) a x w sa (fun g h => (sx g h).to (by omega)) sw (by omega) (by omega)
        have V2 := rValue_spec (n := 40) (by omega) (by omega) a x w sa (fun g h => (sx g h).to (by omega)) sw (by omega) (by omega)
        obtain ⟨v, f, ev, lv⟩ := valV_form sa sx sw
        obtain ⟨l, o, el, ll, ln⟩ := goV_form (sme hb1) sx sw
        rw [ev] at V1 V2
        rw [el] at G1 G2
        have S1 := rSame_self lv
        have S2 := rSames_spec l ll ln
        have NM := Num_specW f
        clear hx hw GV RV sme hb1 hb2 ev el
        repeat' first | refine Ops.tag rfl ?_ | ((with_reducible first | refine OpsT.yes ?_ | refine OpsT.yes' ?_); (conv => arg 7; whnf)) | (refine OpsT.go ?_; (conv => arg 7; whnf)) | (with_reducible first | refine Stp.orF ?_ | refine Stp.andT ?_ | refine Stp.andT2 ?_) | ((with_reducible refine Stp.isDec ?_); first | refine Stp.decF ?_) | ((with_reducible refine Stp.isEq ?_); first | refine Stp.eqT ?_) | refine Stp.pure rfl ?_ | ((with_reducible refine PutK.isSet ?_); refine PutK.set (by repeat first | exact HsetIs.hit) ?_) | refine PutK.mk' rfl ?_ | refine Ops.nil ?_ | ((with_reducible refine Look.id ?_); refine Look.auto ?_ (by repeat first | exact HGet.hit | apply HGet.miss (by omega)); try (conv => arg 7; whnf)) | ((with_reducible refine Side.id ?_); first | refine Side.auto ?_) | ((with_reducible refine Br.id ?_); first | (with_reducible first | refine br_false rfl ?_)) | ((with_reducible refine SemWp.id ?_); first | refine sem_seq ?_ | refine sem_region rfl ?_ | refine sem_cond rfl ?_ | refine sem_ret ?_ | refine sem_skip ?_) | ((with_reducible refine qThen.id ?_); first | refine qThen.go ?_) | refine Stp.valS ?_ | refine Stp.look ?_ | refine Stp.call ?_ | refine Stp.callC ?_ | refine Stp.eff ?_ | ((with_reducible refine CallWp.id ?_); first | refine Pur.call (LP) ?_ | refine Pur.call (GX) ?_ | refine Pur.call (GW) ?_ | refine Pur.call (V1) ?_ | refine Pur.call (V2) ?_ | refine Pur.call (G1) ?_ | refine Pur.call (G2) ?_ | refine Pur.call (S1) ?_ | refine Pur.call (S2) ?_ | refine Pur.call (NM) ?_) | ((with_reducible refine CallC.id ?_); first | (refine Pur.askC (AW) ?_ ?_; focus (intro h; first | exact rfl))) | (refine newN (fun r hr => ?_); simp only [keys, List.nil_append, List.cons_append, List.map_cons, List.map_nil, List.mem_cons, List.not_mem_nil, not_or, or_false, not_false_eq_true] at hr) | ((with_reducible refine BodyR.id ?_); first | refine BodyR.ret ?_) | ((with_reducible refine ResG.id ?_); first | refine ResG.tmp rfl ?_ | refine ResG.nil ?_) | ((with_reducible refine Upd.id ?_); first | (refine Upd.lit rfl ?_; (conv => whnf)))
        exact Fin.mk (by rw [BEq.rfl]; rfl)
end Go.Proofs.Hk

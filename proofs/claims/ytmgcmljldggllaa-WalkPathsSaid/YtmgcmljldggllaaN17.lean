import Derived.Test.YtmgcmljldggllaaN16
set_option linter.unusedSimpArgs false
set_option linter.unusedVariables false
namespace Go.Proofs.Hk
open Go Go.Proofs

structure GLoc where
  path : List Int
  point : Int
structure GV where
  loc : Int
  site : Int
  m : Int
  g : List GA
structure GLow where
  locs : List GLoc
  slots : List ByteArray
  es : List GE
  vs : List GV
def encLoc (l : GLoc) : HV := .agg [.list .no 1 (l.path.map ii), ii l.point]
def encV' (loc site m : Int) (g : List GA) : HV := .agg [ii loc, ii site, ii m, LAs g]
def encV (v : GV) : HV := encV' v.loc v.site v.m v.g
def LLocs (l : List GLoc) : HV := .list .no 2 (l.map encLoc)
def LSs (l : List ByteArray) : HV := .list .no 1 (l.map ss)
def LEs (l : List GE) : HV := .list .no 6 (l.map encE)
def LVs (l : List GV) : HV := .list .no 4 (l.map encV)
def encLow' (locs : List GLoc) (slots : List ByteArray) (es : List GE) (vs : List GV) : HV := .agg [LLocs locs, LSs slots, LEs es, LVs vs]
def encLow (l : GLow) : HV := encLow' l.locs l.slots l.es l.vs
structure LenE (e : GE) : Prop where
  g : ∀ a ∈ e.g, LenA a
  s : ∀ a ∈ e.s, LenA a
  lg : e.g.length ≤ 9223372036854775807
  ls : e.s.length ≤ 9223372036854775807
structure LenV (v : GV) : Prop where
  g : ∀ a ∈ v.g, LenA a
  lg : v.g.length ≤ 9223372036854775807
def bigE (e : GE) : Bool := decide (100 < e.g.length) || decide (20 < e.s.length) || bigAs e.g || bigAs e.s
def bigV (v : GV) : Bool := decide (100 < v.g.length) || bigAs v.g
def bigLow (l : GLow) : Bool := decide (60 < l.locs.length) || decide (10 < l.slots.length) || decide (300 < l.es.length) || decide (300 < l.vs.length) || l.es.any bigE || l.vs.any bigV
theorem getD_edge {l : List GE} {k : Int} {n : Nat} (hk : k = n) (h : n < l.length) : (l.map encE).getD k.toNat default = encE' l[n].fr l[n].to l[n].m l[n].g l[n].s l[n].p := by
  subst hk
  simp [List.getD_eq_getElem?_getD, h, encE]
theorem getD_viol {l : List GV} {k : Int} {n : Nat} (hk : k = n) (h : n < l.length) : (l.map encV).getD k.toNat default = encV' l[n].loc l[n].site l[n].m l[n].g := by
  subst hk
  simp [List.getD_eq_getElem?_getD, h, encV]
structure LenLow (l : GLow) : Prop where
  locs : l.locs.length ≤ 9223372036854775807
  slots : l.slots.length ≤ 9223372036854775807
  les : l.es.length ≤ 9223372036854775807
  lvs : l.vs.length ≤ 9223372036854775807
  es : ∀ e ∈ l.es, LenE e
  vs : ∀ v ∈ l.vs, LenV v
set_option maxHeartbeats 2000000 in
theorem GreatLow_spec (l : GLow) (h : LenLow l) : Pur cx 14 [encLow l] (bb (bigLow l)) := by
  obtain ⟨locs, slots, es, vs⟩ := l
  have n1 : locs.length ≤ 9223372036854775807 := h.locs
  have n2 : slots.length ≤ 9223372036854775807 := h.slots
  have n3 : es.length ≤ 9223372036854775807 := h.les
  have n4 : vs.length ≤ 9223372036854775807 := h.lvs
  have he : ∀ e ∈ es, LenE e := h.es
  have hv : ∀ v ∈ vs, LenV v := h.vs
  have m1 : (locs.map encLoc).length = locs.length := by simp
  have m2 : (slots.map ss).length = slots.length := by simp
  have m3 : (es.map encE).length = es.length := by simp
  have m4 : (vs.map encV).length = vs.length := by simp
  have eb : bigLow ⟨locs, slots, es, vs⟩ = (decide (60 < locs.length) || decide (10 < slots.length) || decide (300 < es.length) || decide (300 < vs.length) || es.any bigE || vs.any bigV) := rfl
  change Pur cx _ [encLow' locs slots es vs] _
  generalize bigLow ⟨locs, slots, es, vs⟩ = big at *
  refine Pur.of (sem_calls' cx (fn := Try.f14) rfl rfl rfl rfl ?_)
  by_cases h1 : 60 < locs.length
  · rw [decide_eq_true h1] at eb
    subst eb
    repeat' first | refine Ops.tag rfl ?_ | (with_reducible first | refine OpsT.no' ?_) | (refine OpsT.go ?_; (conv => arg 7; whnf)) | (with_reducible first | refine Stp.orT ?_) | ((with_reducible refine Stp.isDec ?_); first | refine Stp.decT ?_) | refine Stp.pure rfl ?_ | refine PutK.mk' rfl ?_ | refine Ops.nil ?_ | ((with_reducible refine Look.id ?_); refine Look.auto ?_ (by repeat first | exact HGet.hit); try (conv => arg 7; whnf)) | ((with_reducible refine Side.id ?_); first | refine Side.auto ?_) | ((with_reducible refine Br.id ?_); first | (with_reducible first | refine br_true rfl ?_)) | ((with_reducible refine SemWp.id ?_); first | refine sem_seq ?_ | refine sem_region rfl ?_ | refine sem_cond rfl ?_ | refine sem_ret ?_) | ((with_reducible refine qThen.id ?_); first | refine qThen.go ?_ | refine qThen.ret ?_) | refine Stp.valS ?_ | refine Stp.look ?_ | refine Stp.eff ?_ | (refine newN (fun r hr => ?_); simp only [keys, List.nil_append, List.cons_append, List.map_cons, List.map_nil, List.mem_cons, List.not_mem_nil, not_or, or_false, not_false_eq_true] at hr) | ((with_reducible refine BodyR.id ?_); first | refine BodyR.ret ?_) | ((with_reducible refine ResG.id ?_); first | refine ResG.tmp rfl ?_ | refine ResG.nil ?_)
    exact Fin.mk rfl
  by_cases h2 : 10 < slots.length
  · rw [decide_eq_true h2, Bool.or_true] at eb
    subst eb
    repeat' first | refine Ops.tag rfl ?_ | ((with_reducible first | refine OpsT.yes' ?_); (conv => arg 7; whnf)) | (with_reducible first | refine OpsT.no' ?_) | (refine OpsT.go ?_; (conv => arg 7; whnf)) | (with_reducible first | refine Stp.orF ?_ | refine Stp.orT ?_) | ((with_reducible refine Stp.isDec ?_); first | refine Stp.decT ?_ | refine Stp.decF ?_) | refine Stp.pure rfl ?_ | refine PutK.mk' rfl ?_ | refine Ops.nil ?_ | ((with_reducible refine Look.id ?_); refine Look.auto ?_ (by repeat first | exact HGet.hit); try (conv => arg 7; whnf)) | ((with_reducible refine Side.id ?_); first | refine Side.auto ?_) | ((with_reducible refine Br.id ?_); first | (with_reducible first | refine br_true rfl ?_)) | ((with_reducible refine SemWp.id ?_); first | refine sem_seq ?_ | refine sem_region rfl ?_ | refine sem_cond rfl ?_ | refine sem_ret ?_) | ((with_reducible refine qThen.id ?_); first | refine qThen.go ?_ | refine qThen.ret ?_) | refine Stp.valS ?_ | refine Stp.look ?_ | refine Stp.eff ?_ | (refine newN (fun r hr => ?_); simp only [keys, List.nil_append, List.cons_append, List.map_cons, List.map_nil, List.mem_cons, List.not_mem_nil, not_or, or_false, not_false_eq_true] at hr) | ((with_reducible refine BodyR.id ?_); first | refine BodyR.ret ?_) | ((with_reducible refine ResG.id ?_); first | refine ResG.tmp rfl ?_ | refine ResG.nil ?_)
    exact Fin.mk rfl
  by_cases h3 : 300 < es.length
  · rw [decide_eq_true h3, Bool.or_true] at eb
    subst eb
    repeat' first | refine Ops.tag rfl ?_ | ((with_reducible first | refine OpsT.yes' ?_); (conv => arg 7; whnf)) | (with_reducible first | refine OpsT.no' ?_) | (refine OpsT.go ?_; (conv => arg 7; whnf)) | (with_reducible first | refine Stp.orF ?_ | refine Stp.orT ?_) | ((with_reducible refine Stp.isDec ?_); first | refine Stp.decT ?_ | refine Stp.decF ?_) | refine Stp.pure rfl ?_ | refine PutK.mk' rfl ?_ | refine Ops.nil ?_ | ((with_reducible refine Look.id ?_); refine Look.auto ?_ (by repeat first | exact HGet.hit); try (conv => arg 7; whnf)) | ((with_reducible refine Side.id ?_); first | refine Side.auto ?_) | ((with_reducible refine Br.id ?_); first | (with_reducible first | refine br_true rfl ?_)) | ((with_reducible refine SemWp.id ?_); first | refine sem_seq ?_ | refine sem_region rfl ?_ | refine sem_cond rfl ?_ | refine sem_ret ?_) | ((with_reducible refine qThen.id ?_); first | refine qThen.go ?_ | refine qThen.ret ?_) | refine Stp.valS ?_ | refine Stp.look ?_ | refine Stp.eff ?_ | (refine newN (fun r hr => ?_); simp only [keys, List.nil_append, List.cons_append, List.map_cons, List.map_nil, List.mem_cons, List.not_mem_nil, not_or, or_false, not_false_eq_true] at hr) | ((with_reducible refine BodyR.id ?_); first | refine BodyR.ret ?_) | ((with_reducible refine ResG.id ?_); first | refine ResG.tmp rfl ?_ | refine ResG.nil ?_)
    exact Fin.mk rfl
  by_cases h4 : 300 < vs.length
  · rw [decide_eq_true h4, Bool.or_true] at eb
    subst eb
    repeat' first | refine Ops.tag rfl ?_ | ((with_reducible first | refine OpsT.yes' ?_); (conv => arg 7; whnf)) | (refine OpsT.go ?_; (conv => arg 7; whnf)) | (with_reducible first | refine Stp.orF ?_) | ((with_reducible refine Stp.isDec ?_); first | refine Stp.decT ?_ | refine Stp.decF ?_) | refine Stp.pure rfl ?_ | refine PutK.mk' rfl ?_ | refine Ops.nil ?_ | ((with_reducible refine Look.id ?_); refine Look.auto ?_ (by repeat first | exact HGet.hit); try (conv => arg 7; whnf)) | ((with_reducible refine Side.id ?_); first | refine Side.auto ?_) | ((with_reducible refine Br.id ?_); first | (with_reducible first | refine br_true rfl ?_)) | ((with_reducible refine SemWp.id ?_); first | refine sem_seq ?_ | refine sem_region rfl ?_ | refine sem_cond rfl ?_ | refine sem_ret ?_) | ((with_reducible refine qThen.id ?_); first | refine qThen.go ?_ | refine qThen.ret ?_) | refine Stp.valS ?_ | refine Stp.look ?_ | refine Stp.eff ?_ | (refine newN (fun r hr => ?_); simp only [keys, List.nil_append, List.cons_append, List.map_cons, List.map_nil, List.mem_cons, List.not_mem_nil, not_or, or_false, not_false_eq_true] at hr) | ((with_reducible refine BodyR.id ?_); first | refine BodyR.ret ?_) | ((with_reducible refine ResG.id ?_); first | refine ResG.tmp rfl ?_ | refine ResG.nil ?_)
    exact Fin.mk rfl
  rw [decide_eq_false h1, decide_eq_false h2, decide_eq_false h3, decide_eq_false h4, Bool.or_false, Bool.or_false, Bool.or_false, Bool.false_or] at eb
  repeat' first | refine Ops.tag rfl ?_ | ((with_reducible first | refine OpsT.yes' ?_); (conv => arg 7; whnf)) | (refine OpsT.go ?_; (conv => arg 7; whnf)) | (with_reducible first | refine Stp.orF ?_) | ((with_reducible refine Stp.isDec ?_); first | refine Stp.decF ?_) | refine Stp.pure rfl ?_ | refine PutK.mk' rfl ?_ | refine Ops.nil ?_ | ((with_reducible refine Look.id ?_); refine Look.auto ?_ (by repeat first | exact HGet.hit); try (conv => arg 7; whnf)) | ((with_reducible refine Side.id ?_); first | refine Side.auto ?_) | ((with_reducible refine Br.id ?_); first | (with_reducible first | refine br_false rfl ?_)) | ((with_reducible refine SemWp.id ?_); first | refine sem_seq ?_ | refine sem_region rfl ?_ | refine sem_cond rfl ?_ | refine sem_block ?_ | refine sem_skip ?_) | ((with_reducible refine qThen.id ?_); first | refine qThen.go ?_) | refine Stp.valS ?_ | refine Stp.look ?_ | refine Stp.eff ?_ | (refine newN (fun r hr => ?_); simp only [keys, List.nil_append, List.cons_append, List.map_cons, List.map_nil, List.mem_cons, List.not_mem_nil, not_or, or_false, not_false_eq_true] at hr)
  refine sem_loop cx (ι := Nat) (fun i => i ≤ es.length ∧ (es.take i).any bigE = false) (fun i => [(1, .sure, .ptr r 0), (3, .sure, ii i)]) (fun _ => [(r, .cells [LLocs locs, LSs slots, LEs es, LVs vs] 53)]) (fun i => es.length - i) 0 ⟨Nat.zero_le _, rfl⟩ (by repeat' first | exact Sub.nil _ | refine Sub.auto ?_) (Subp.of_eq rfl) ?_
  rintro i ⟨i1, i2⟩
  by_cases hi : i < es.length
  · have g1 := getD_edge (l := es) (k := i) (n := i) rfl hi
    have t := any_take (p := bigE) hi
    have y := any_yes (p := bigE) hi
    have hlen := he _ (List.getElem_mem hi)
    generalize es[i] = e at *
    have mg : (e.g.map encA).length = e.g.length := by simp
    have ms : (e.s.map encA).length = e.s.length := by simp
    have lg := hlen.lg
    have ls := hlen.ls
    have Dg := deep_spec e.g hlen.g hlen.lg
    have Ds := deep_spec e.s hlen.s hlen.ls
    have ee : bigE e = (decide (100 < e.g.length) || decide (20 < e.s.length) || bigAs e.g || bigAs e.s) := rfl
    have yes : bigE e = true → Fin (HEnd.ret (tupOf [HV.v (.bool true)]) = HEnd.ret (bb big)) := fun h => Fin.mk (by rw [eb, y h]; rfl)
    clear y eb
    by_cases q1 : 100 < e.g.length
    · have hy : bigE e = true := by rw [ee, decide_eq_true q1]; rfl
      clear ee t
      repeat' first | refine Ops.tag rfl ?_ | (with_reducible first | refine OpsT.no' ?_) | (refine OpsT.go ?_; (conv => arg 7; whnf)) | (with_reducible first | refine Stp.orT ?_) | ((with_reducible refine Stp.isDec ?_); first | refine Stp.decT ?_) | refine Stp.pure rfl ?_ | refine PutK.mk' rfl ?_ | refine Ops.nil ?_ | ((with_reducible refine Look.id ?_); refine Look.auto ?_ (by repeat first | exact HGet.hit); try (conv => arg 7; whnf)) | ((with_reducible refine Side.id ?_); first | refine Side.auto ?_) | ((with_reducible refine Br.id ?_); first | (with_reducible first | refine br_true rfl ?_)) | ((with_reducible refine SemWp.id ?_); first | refine sem_seq ?_ | refine sem_region rfl ?_ | refine sem_cond rfl ?_ | refine sem_block ?_ | refine sem_ret ?_ | refine sem_skip ?_) | ((with_reducible refine qThen.id ?_); first | refine qThen.go ?_ | refine qThen.ret ?_) | ((with_reducible refine hinBlock.id ?_); first | refine hinBlock.ret ?_) | ((with_reducible refine hround.id ?_); first | refine hround.ret ?_) | refine Stp.valS ?_ | refine Stp.look ?_ | ((with_reducible refine BodyR.id ?_); first | refine BodyR.ret ?_) | ((with_reducible refine ResG.id ?_); first | refine ResG.tmp rfl ?_ | refine ResG.nil ?_) | rw [g1]
      exact yes hy
    · rw [decide_eq_false q1, Bool.false_or] at ee
      by_cases q2 : 20 < e.s.length
      · have hy : bigE e = true := by rw [ee, decide_eq_true q2]; rfl
        clear ee t
        repeat' first | refine Ops.tag rfl ?_ | ((with_reducible first | refine OpsT.yes' ?_); (conv => arg 7; whnf)) | (with_reducible first | refine OpsT.no' ?_) | (refine OpsT.go ?_; (conv => arg 7; whnf)) | (with_reducible first | refine Stp.orF ?_ | refine Stp.orT ?_) | ((with_reducible refine Stp.isDec ?_); first | refine Stp.decT ?_ | refine Stp.decF ?_) | refine Stp.pure rfl ?_ | refine PutK.mk' rfl ?_ | refine Ops.nil ?_ | ((with_reducible refine Look.id ?_); refine Look.auto ?_ (by repeat first | exact HGet.hit); try (conv => arg 7; whnf)) | ((with_reducible refine Side.id ?_); first | refine Side.auto ?_) | ((with_reducible refine Br.id ?_); first | (with_reducible first | refine br_true rfl ?_)) | ((with_reducible refine SemWp.id ?_); first | refine sem_seq ?_ | refine sem_region rfl ?_ | refine sem_cond rfl ?_ | refine sem_block ?_ | refine sem_ret ?_ | refine sem_skip ?_) | ((with_reducible refine qThen.id ?_); first | refine qThen.go ?_ | refine qThen.ret ?_) | ((with_reducible refine hinBlock.id ?_); first | refine hinBlock.ret ?_) | ((with_reducible refine hround.id ?_); first | refine hround.ret ?_) | refine Stp.valS ?_ | refine Stp.look ?_ | ((with_reducible refine BodyR.id ?_); first | refine BodyR.ret ?_) | ((with_reducible refine ResG.id ?_); first | refine ResG.tmp rfl ?_ | refine ResG.nil ?_) | rw [g1]
        exact yes hy
      · rw [decide_eq_false q2, Bool.false_or] at ee
        generalize bigAs e.g = b1 at *
        generalize bigAs e.s = b2 at *
        cases b1 <;> cases b2
        case false.false =>
          have tn : (es.take (i + 1)).any bigE = false := by rw [t, i2, ee]; rfl
          clear ee t yes
          repeat' first | refine Ops.tag rfl ?_ | ((with_reducible first | refine OpsT.yes' ?_); (conv => arg 7; whnf)) | (refine OpsT.go ?_; (conv => arg 7; whnf)) | (with_reducible first | refine Stp.orF ?_) | ((with_reducible refine Stp.isSum ?_); refine Stp.sum ?_) | ((with_reducible refine Stp.isDec ?_); first | refine Stp.decT ?_ | refine Stp.decF ?_) | refine Stp.pure rfl ?_ | refine PutK.mk' rfl ?_ | refine Ops.nil ?_ | ((with_reducible refine Look.id ?_); refine Look.auto ?_ (by repeat first | exact HGet.hit); try (conv => arg 7; whnf)) | ((with_reducible refine Side.id ?_); first | refine Side.auto ?_) | ((with_reducible refine Br.id ?_); first | (with_reducible first | refine br_true rfl ?_ | refine br_false rfl ?_)) | ((with_reducible refine SemWp.id ?_); first | refine sem_seq ?_ | refine sem_region rfl ?_ | refine sem_cond rfl ?_ | refine sem_block ?_ | refine sem_skip ?_) | ((with_reducible refine qThen.id ?_); first | refine qThen.go ?_) | ((with_reducible refine hinBlock.id ?_); first | refine hinBlock.go ?_) | ((with_reducible refine hround.id ?_); first | refine hround.go ?_) | refine Stp.valS ?_ | refine Stp.look ?_ | refine Stp.call ?_ | ((with_reducible refine CallWp.id ?_); first | refine Pur.call (Dg) ?_ | refine Pur.call (Ds) ?_) | rw [g1]
          exact Fin.mk ⟨i + 1, ⟨by omega, tn⟩, by omega, by repeat' first | exact Sub.nil _ | refine Sub.auto ?_, Subp.refl _⟩
        all_goals
          have hy : bigE e = true := ee
          clear ee t
          repeat' first | refine Ops.tag rfl ?_ | ((with_reducible first | refine OpsT.yes' ?_); (conv => arg 7; whnf)) | (with_reducible first | refine OpsT.no' ?_) | (refine OpsT.go ?_; (conv => arg 7; whnf)) | (with_reducible first | refine Stp.orF ?_ | refine Stp.orT ?_) | ((with_reducible refine Stp.isDec ?_); first | refine Stp.decT ?_ | refine Stp.decF ?_) | refine Stp.pure rfl ?_ | refine PutK.mk' rfl ?_ | refine Ops.nil ?_ | ((with_reducible refine Look.id ?_); refine Look.auto ?_ (by repeat first | exact HGet.hit); try (conv => arg 7; whnf)) | ((with_reducible refine Side.id ?_); first | refine Side.auto ?_) | ((with_reducible refine Br.id ?_); first | (with_reducible first | refine br_true rfl ?_)) | ((with_reducible refine SemWp.id ?_); first | refine sem_seq ?_ | refine sem_region rfl ?_ | refine sem_cond rfl ?_ | refine sem_block ?_ | refine sem_ret ?_ | refine sem_skip ?_) | ((with_reducible refine qThen.id ?_); first | refine qThen.go ?_ | refine qThen.ret ?_) | ((with_reducible refine hinBlock.id ?_); first | refine hinBlock.ret ?_) | ((with_reducible refine hround.id ?_); first | refine hround.ret ?_) | refine Stp.valS ?_ | refine Stp.look ?_ | refine Stp.call ?_ | ((with_reducible refine CallWp.id ?_); first | refine Pur.call (Dg) ?_ | refine Pur.call (Ds) ?_) | ((with_reducible refine BodyR.id ?_); first | refine BodyR.ret ?_) | ((with_reducible refine ResG.id ?_); first | refine ResG.tmp rfl ?_ | refine ResG.nil ?_) | rw [g1]
          exact yes hy
  · have : i = es.length := by omega
    subst this
    rw [List.take_length] at i2
    rw [i2, Bool.false_or] at eb
    clear i2
    repeat' first | refine Ops.tag rfl ?_ | (refine OpsT.go ?_; (conv => arg 7; whnf)) | ((with_reducible refine Stp.isDec ?_); first | refine Stp.decF ?_) | refine Stp.pure rfl ?_ | refine Ops.nil ?_ | ((with_reducible refine Look.id ?_); refine Look.auto ?_ (by repeat first | exact HGet.hit); try (conv => arg 7; whnf)) | ((with_reducible refine Side.id ?_); first | refine Side.auto ?_) | ((with_reducible refine Br.id ?_); first | (with_reducible first | refine br_false rfl ?_)) | ((with_reducible refine SemWp.id ?_); first | refine sem_seq ?_ | refine sem_region rfl ?_ | refine sem_cond rfl ?_ | refine sem_block ?_ | refine sem_exit ?_) | ((with_reducible refine qThen.id ?_); first | refine qThen.go ?_) | refine Stp.valS ?_ | refine Stp.look ?_
    refine sem_loop cx (ι := Nat) (fun i => i ≤ vs.length ∧ (vs.take i).any bigV = false) (fun i => [(1, .sure, .ptr r 0), (4, .sure, ii i)]) (fun _ => [(r, .cells [LLocs locs, LSs slots, LEs es, LVs vs] 53)]) (fun i => vs.length - i) 0 ⟨Nat.zero_le _, rfl⟩ (by repeat' first | exact Sub.nil _ | refine Sub.auto ?_) (Subp.of_eq rfl) ?_
    rintro i ⟨i1, i2⟩
    by_cases hi : i < vs.length
    · have g1 := getD_viol (l := vs) (k := i) (n := i) rfl hi
      have t := any_take (p := bigV) hi
      have y := any_yes (p := bigV) hi
      have hlen := hv _ (List.getElem_mem hi)
      generalize vs[i] = v at *
      have mg : (v.g.map encA).length = v.g.length := by simp
      have lg := hlen.lg
      have Dg := deep_spec v.g hlen.g hlen.lg
      have ee : bigV v = (decide (100 < v.g.length) || bigAs v.g) := rfl
      have yes : bigV v = true → Fin (HEnd.ret (tupOf [HV.v (.bool true)]) = HEnd.ret (bb big)) := fun h => Fin.mk (by rw [eb, y h]; rfl)
      clear y eb
      by_cases q1 : 100 < v.g.length
      · have hy : bigV v = true := by rw [ee, decide_eq_true q1]; rfl
        clear ee t
        repeat' first | refine Ops.tag rfl ?_ | (with_reducible first | refine OpsT.no' ?_) | (refine OpsT.go ?_; (conv => arg 7; whnf)) | (with_reducible first | refine Stp.orT ?_) | ((with_reducible refine Stp.isDec ?_); first | refine Stp.decT ?_) | refine Stp.pure rfl ?_ | refine PutK.mk' rfl ?_ | refine Ops.nil ?_ | ((with_reducible refine Look.id ?_); refine Look.auto ?_ (by repeat first | exact HGet.hit); try (conv => arg 7; whnf)) | ((with_reducible refine Side.id ?_); first | refine Side.auto ?_) | ((with_reducible refine Br.id ?_); first | (with_reducible first | refine br_true rfl ?_)) | ((with_reducible refine SemWp.id ?_); first | refine sem_seq ?_ | refine sem_region rfl ?_ | refine sem_cond rfl ?_ | refine sem_block ?_ | refine sem_ret ?_ | refine sem_skip ?_) | ((with_reducible refine qThen.id ?_); first | refine qThen.go ?_ | refine qThen.ret ?_) | ((with_reducible refine hinBlock.id ?_); first | refine hinBlock.ret ?_) | ((with_reducible refine hround.id ?_); first | refine hround.ret ?_) | refine Stp.valS ?_ | refine Stp.look ?_ | ((with_reducible refine BodyR.id ?_); first | refine BodyR.ret ?_) | ((with_reducible refine ResG.id ?_); first | refine ResG.tmp rfl ?_ | refine ResG.nil ?_) | rw [g1]
        exact yes hy
      · rw [decide_eq_false q1, Bool.false_or] at ee
        generalize bigAs v.g = b1 at *
        cases b1
        case false =>
          have tn : (vs.take (i + 1)).any bigV = false := by rw [t, i2, ee]; rfl
          clear ee t yes
          repeat' first | refine Ops.tag rfl ?_ | ((with_reducible first | refine OpsT.yes' ?_); (conv => arg 7; whnf)) | (refine OpsT.go ?_; (conv => arg 7; whnf)) | (with_reducible first | refine Stp.orF ?_) | ((with_reducible refine Stp.isSum ?_); refine Stp.sum ?_) | ((with_reducible refine Stp.isDec ?_); first | refine Stp.decT ?_ | refine Stp.decF ?_) | refine Stp.pure rfl ?_ | refine PutK.mk' rfl ?_ | refine Ops.nil ?_ | ((with_reducible refine Look.id ?_); refine Look.auto ?_ (by repeat first | exact HGet.hit); try (conv => arg 7; whnf)) | ((with_reducible refine Side.id ?_); first | refine Side.auto ?_) | ((with_reducible refine Br.id ?_); first | (with_reducible first | refine br_true rfl ?_ | refine br_false rfl ?_)) | ((with_reducible refine SemWp.id ?_); first | refine sem_seq ?_ | refine sem_region rfl ?_ | refine sem_cond rfl ?_ | refine sem_block ?_ | refine sem_skip ?_) | ((with_reducible refine qThen.id ?_); first | refine qThen.go ?_) | ((with_reducible refine hinBlock.id ?_); first | refine hinBlock.go ?_) | ((with_reducible refine hround.id ?_); first | refine hround.go ?_) | refine Stp.valS ?_ | refine Stp.look ?_ | refine Stp.call ?_ | ((with_reducible refine CallWp.id ?_); first | refine Pur.call (Dg) ?_) | rw [g1]
          exact Fin.mk ⟨i + 1, ⟨by omega, tn⟩, by omega, by repeat' first | exact Sub.nil _ | refine Sub.auto ?_, Subp.refl _⟩
        case true =>
          have hy : bigV v = true := ee
          clear ee t
          repeat' first | refine Ops.tag rfl ?_ | ((with_reducible first | refine OpsT.yes' ?_); (conv => arg 7; whnf)) | (refine OpsT.go ?_; (conv => arg 7; whnf)) | (with_reducible first | refine Stp.orF ?_) | ((with_reducible refine Stp.isDec ?_); first | refine Stp.decT ?_ | refine Stp.decF ?_) | refine Stp.pure rfl ?_ | refine PutK.mk' rfl ?_ | refine Ops.nil ?_ | ((with_reducible refine Look.id ?_); refine Look.auto ?_ (by repeat first | exact HGet.hit); try (conv => arg 7; whnf)) | ((with_reducible refine Side.id ?_); first | refine Side.auto ?_) | ((with_reducible refine Br.id ?_); first | (with_reducible first | refine br_true rfl ?_)) | ((with_reducible refine SemWp.id ?_); first | refine sem_seq ?_ | refine sem_region rfl ?_ | refine sem_cond rfl ?_ | refine sem_block ?_ | refine sem_ret ?_ | refine sem_skip ?_) | ((with_reducible refine qThen.id ?_); first | refine qThen.go ?_ | refine qThen.ret ?_) | ((with_reducible refine hinBlock.id ?_); first | refine hinBlock.ret ?_) | ((with_reducible refine hround.id ?_); first | refine hround.ret ?_) | refine Stp.valS ?_ | refine Stp.look ?_ | refine Stp.call ?_ | ((with_reducible refine CallWp.id ?_); first | refine Pur.call (Dg) ?_) | ((with_reducible refine BodyR.id ?_); first | refine BodyR.ret ?_) | ((with_reducible refine ResG.id ?_); first | refine ResG.tmp rfl ?_ | refine ResG.nil ?_) | rw [g1]
          exact yes hy
    · have : i = vs.length := by omega
      subst this
      rw [List.take_length] at i2
      rw [i2] at eb
      subst eb
      repeat' first | refine Ops.tag rfl ?_ | (refine OpsT.go ?_; (conv => arg 7; whnf)) | ((with_reducible refine Stp.isDec ?_); first | refine Stp.decF ?_) | refine Stp.pure rfl ?_ | refine Ops.nil ?_ | ((with_reducible refine Look.id ?_); refine Look.auto ?_ (by repeat first | exact HGet.hit); try (conv => arg 7; whnf)) | ((with_reducible refine Side.id ?_); first | refine Side.auto ?_) | ((with_reducible refine Br.id ?_); first | (with_reducible first | refine br_false rfl ?_)) | ((with_reducible refine SemWp.id ?_); first | refine sem_seq ?_ | refine sem_region rfl ?_ | refine sem_cond rfl ?_ | refine sem_exit ?_ | refine sem_ret ?_) | ((with_reducible refine qThen.id ?_); first | refine qThen.go ?_) | refine Stp.valS ?_ | refine Stp.look ?_ | ((with_reducible refine BodyR.id ?_); first | refine BodyR.ret ?_) | ((with_reducible refine ResG.id ?_); first | refine ResG.tmp rfl ?_ | refine ResG.nil ?_)
      exact Fin.mk rfl
end Go.Proofs.Hk

import Derived.Test.YtmgcmljldggllaaL1
import Derived.Test.YtmgcmljldggllaaH24
import Derived.Test.YtmgcmljldggllaaN1
set_option linter.unusedSimpArgs false
set_option linter.unusedVariables false
namespace Go.Proofs.Hk
open Go Go.Proofs

def u32 (n : Nat) : HV := .v (.int .u32 n)
def u64 (n : Nat) : HV := .v (.int .u64 n)
def LL (l : List Nat) : HV := .list .no 1 (l.map u32)
structure GI where
  neg : Bool
  l : List Nat
def encP (n : Bool) (l : List Nat) : HV := .agg [bb n, LL l]
def encI (g : GI) : HV := encP g.neg g.l
def GI.may (g : GI) : Bool := match g.l.getLast? with
  | none => !g.neg
  | some x => x != 0
/-- What is read of a number: its limbs are limbs, and not too many. -/
structure GI.Ok (g : GI) : Prop where
  lim : Lim g.l
  len : g.l.length ≤ 1099511627776
def sg (n : Bool) (V : Nat) : Int := if n = true then -(V : Int) else V
def toZ (g : GI) : Int := if g.may = true then sg g.neg (vl g.l) else 0
def ofZ (z : Int) : GI := ⟨decide (z < 0), nl z.natAbs⟩

theorem getD_u32 {l : List Nat} {k : Int} {n : Nat} (hk : k = n) (h : n < l.length) : (l.map u32).getD k.toNat default = .v (.int .u32 (l[n] : Int)) := by
  subst hk
  simp [List.getD_eq_getElem?_getD, h, u32]
theorem may_top {g : GI} (h : g.may = true) : Top0 g.l := fun x hx => by
  unfold GI.may at h
  rw [hx] at h
  simpa using h

theorem may_at {n : Bool} {l : List Nat} (h : 0 < l.length) : (GI.mk n l).may = ((l[l.length - 1]'(by omega) : Int) != 0) := by
  unfold GI.may
  simp only [List.getLast?_eq_getElem?]
  rw [List.getElem?_eq_getElem (by omega)]
  simp only []
  by_cases h0 : l[l.length - 1]'(by omega) = 0
  · rw [h0]; rfl
  · rw [bne_iff_ne.2 h0, bne_iff_ne.2 (by omega)]
theorem May_spec (g : GI) (hg : g.Ok) : Pur cx 71 [encI g] (bb g.may) := by
  obtain ⟨n, l⟩ := g
  have hl : l.length ≤ 1099511627776 := hg.len
  have hm : (l.map u32).length = l.length := by simp
  change Pur cx _ [encP n l] _
  refine Pur.of (sem_calls' cx (fn := Try.f71) rfl rfl rfl rfl ?_)
  by_cases h0 : l.length = 0
  · have : l = [] := List.length_eq_zero_iff.1 h0
    subst this
    repeat' first | refine Ops.tag rfl ?_ | (refine OpsT.go ?_; (conv => arg 7; whnf)) | ((with_reducible refine Stp.isEq ?_); first | refine Stp.eqT ?_) | refine Stp.pure rfl ?_ | refine PutK.mk' rfl ?_ | refine Ops.nil ?_ | ((with_reducible refine Look.id ?_); refine Look.auto ?_ (by repeat first | exact HGet.hit); try (conv => arg 7; whnf)) | ((with_reducible refine Side.id ?_); first | refine Side.auto ?_) | ((with_reducible refine Br.id ?_); first | (with_reducible first | refine br_true rfl ?_)) | ((with_reducible refine SemWp.id ?_); first | refine sem_seq ?_ | refine sem_region rfl ?_ | refine sem_cond rfl ?_ | refine sem_ret ?_) | ((with_reducible refine qThen.id ?_); first | refine qThen.go ?_ | refine qThen.ret ?_) | refine Stp.valS ?_ | refine Stp.look ?_ | refine Stp.eff ?_ | (refine newN (fun r hr => ?_); simp only [keys, List.nil_append, List.cons_append, List.map_cons, List.map_nil, List.mem_cons, List.not_mem_nil, not_or, or_false, not_false_eq_true] at hr) | ((with_reducible refine BodyR.id ?_); first | refine BodyR.ret ?_) | ((with_reducible refine ResG.id ?_); first | refine ResG.tmp rfl ?_ | refine ResG.nil ?_)
    exact Fin.mk rfl
  · have g1 : (l.map u32).getD (((l.map u32).length : Int) - 1).toNat default = .v (.int .u32 (l[l.length - 1]'(by omega) : Int)) := getD_u32 (n := l.length - 1) (by rw [hm]; omega) (by omega)
    repeat' first | refine Ops.tag rfl ?_ | (refine OpsT.go ?_; (conv => arg 7; whnf)) | ((with_reducible refine Stp.isSum ?_); refine Stp.sum ?_) | ((with_reducible refine Stp.isEq ?_); first | refine Stp.eqF ?_) | refine Stp.pure rfl ?_ | refine PutK.mk' rfl ?_ | refine Ops.nil ?_ | ((with_reducible refine Look.id ?_); refine Look.auto ?_ (by repeat first | exact HGet.hit); try (conv => arg 7; whnf)) | ((with_reducible refine Side.id ?_); first | refine Side.auto ?_) | ((with_reducible refine Br.id ?_); first | (with_reducible first | refine br_false rfl ?_)) | ((with_reducible refine SemWp.id ?_); first | refine sem_seq ?_ | refine sem_region rfl ?_ | refine sem_cond rfl ?_ | refine sem_ret ?_ | refine sem_skip ?_) | ((with_reducible refine qThen.id ?_); first | refine qThen.go ?_) | refine Stp.valS ?_ | refine Stp.look ?_ | refine Stp.eff ?_ | (refine newN (fun r hr => ?_); simp only [keys, List.nil_append, List.cons_append, List.map_cons, List.map_nil, List.mem_cons, List.not_mem_nil, not_or, or_false, not_false_eq_true] at hr) | ((with_reducible refine BodyR.id ?_); first | refine BodyR.ret ?_) | ((with_reducible refine ResG.id ?_); first | refine ResG.tmp rfl ?_ | refine ResG.nil ?_) | rw [g1]
    all_goals first
      | (exact Fin.mk (by rw [may_at (by omega)]; rfl))
      | (exfalso; omega)
theorem neg_spec (g : GI) (hg : g.Ok) : Pur cx 55 [encI g] (bb (decide (toZ g < 0))) := by
  have hM := May_spec g hg
  obtain ⟨n, l⟩ := g
  change Pur cx _ [encP n l] _ at hM
  change Pur cx _ [encP n l] _
  refine Pur.of (sem_calls' cx (fn := Try.f55) rfl rfl rfl rfl ?_)
  have e : decide (toZ ⟨n, l⟩ < 0) = ((GI.mk n l).may && n) := by
    unfold toZ
    show decide ((if (GI.mk n l).may = true then sg n (vl l) else 0) < 0) = _
    cases hm : (GI.mk n l).may with
    | false => simp
    | true =>
      have ht := may_top hm
      cases n with
      | false => simp [sg]
      | true =>
        have : l ≠ [] := by intro e; subst e; simp [GI.may] at hm
        have h3 : vl l ≠ 0 := vl_ne ht this
        simp [sg]; omega
  repeat' first | refine Ops.tag rfl ?_ | (refine OpsT.go ?_; (conv => arg 7; whnf)) | refine Stp.pure rfl ?_ | refine PutK.mk' rfl ?_ | refine Ops.nil ?_ | ((with_reducible refine Look.id ?_); refine Look.auto ?_ (by repeat first | exact HGet.hit); try (conv => arg 7; whnf)) | ((with_reducible refine Side.id ?_); first | refine Side.auto ?_) | ((with_reducible refine SemWp.id ?_); first | refine sem_seq ?_ | refine sem_region rfl ?_ | refine sem_ret ?_) | ((with_reducible refine qThen.id ?_); first | refine qThen.go ?_) | refine Stp.valS ?_ | refine Stp.valSC ?_ | refine Stp.look ?_ | refine Stp.call ?_ | refine Stp.eff ?_ | ((with_reducible refine CallWp.id ?_); first | refine Pur.call (hM) ?_) | (refine newN (fun r hr => ?_); simp only [keys, List.nil_append, List.cons_append, List.map_cons, List.map_nil, List.mem_cons, List.not_mem_nil, not_or, or_false, not_false_eq_true] at hr) | ((with_reducible refine BodyR.id ?_); first | refine BodyR.ret ?_) | ((with_reducible refine ResG.id ?_); first | refine ResG.tmp rfl ?_ | refine ResG.nil ?_)
  all_goals exact Fin.mk (by rw [e]; rfl)
theorem limbs_spec (g : GI) (hg : g.Ok) : Pur cx 54 [encI g] (LL (nl (toZ g).natAbs)) := by
  have hM := May_spec g hg
  have hlim := hg.lim
  obtain ⟨n, l⟩ := g
  change Pur cx _ [encP n l] _ at hM
  change Pur cx _ [encP n l] _
  refine Pur.ofW (sem_calls' cx (fn := Try.f54) rfl rfl rfl rfl ?_)
  cases hm : (GI.mk n l).may with
  | false =>
    rw [hm] at hM
    have : (toZ ⟨n, l⟩).natAbs = 0 := by simp [toZ, hm]
    rw [this, nl_zero]
    repeat' first | refine Ops.tag rfl ?_ | (refine OpsT.go ?_; (conv => arg 7; whnf)) | (with_reducible first | refine Stp.notF ?_) | refine Stp.pure rfl ?_ | refine PutK.mk' rfl ?_ | refine Ops.nil ?_ | ((with_reducible refine Look.id ?_); refine Look.auto ?_ (by repeat first | exact HGet.hit); try (conv => arg 7; whnf)) | ((with_reducible refine Side.id ?_); first | refine Side.auto ?_) | ((with_reducible refine Br.id ?_); first | (with_reducible first | refine br_true rfl ?_)) | ((with_reducible refine SemWp.id ?_); first | refine sem_seq ?_ | refine sem_region rfl ?_ | refine sem_cond rfl ?_ | refine sem_ret ?_) | ((with_reducible refine qThen.id ?_); first | refine qThen.go ?_ | refine qThen.ret ?_) | refine Stp.look ?_ | refine Stp.call ?_ | refine Stp.eff ?_ | ((with_reducible refine CallWp.id ?_); first | refine Pur.call (hM) ?_) | (refine newN (fun r hr => ?_); simp only [keys, List.nil_append, List.cons_append, List.map_cons, List.map_nil, List.mem_cons, List.not_mem_nil, not_or, or_false, not_false_eq_true] at hr) | ((with_reducible refine BodyR.id ?_); first | refine BodyR.ret ?_) | ((with_reducible refine ResG.id ?_); first | refine ResG.tmp rfl ?_ | refine ResG.nil ?_)
    exact Fin.weak (Weaker.nil 1)
  | true =>
    rw [hm] at hM
    have : nl (toZ ⟨n, l⟩).natAbs = l := by
      have : (toZ ⟨n, l⟩).natAbs = vl l := by simp only [toZ, hm, if_true, sg]; split <;> omega
      rw [this, nl_vl hlim (may_top hm)]
    rw [this]
    repeat' first | refine Ops.tag rfl ?_ | (refine OpsT.go ?_; (conv => arg 7; whnf)) | (with_reducible first | refine Stp.notT ?_) | refine Stp.pure rfl ?_ | refine PutK.mk' rfl ?_ | refine Ops.nil ?_ | ((with_reducible refine Look.id ?_); refine Look.auto ?_ (by repeat first | exact HGet.hit); try (conv => arg 7; whnf)) | ((with_reducible refine Side.id ?_); first | refine Side.auto ?_) | ((with_reducible refine Br.id ?_); first | (with_reducible first | refine br_false rfl ?_)) | ((with_reducible refine SemWp.id ?_); first | refine sem_seq ?_ | refine sem_region rfl ?_ | refine sem_cond rfl ?_ | refine sem_ret ?_ | refine sem_skip ?_) | ((with_reducible refine qThen.id ?_); first | refine qThen.go ?_) | refine Stp.valS ?_ | refine Stp.look ?_ | refine Stp.call ?_ | refine Stp.eff ?_ | ((with_reducible refine CallWp.id ?_); first | refine Pur.call (hM) ?_) | (refine newN (fun r hr => ?_); simp only [keys, List.nil_append, List.cons_append, List.map_cons, List.map_nil, List.mem_cons, List.not_mem_nil, not_or, or_false, not_false_eq_true] at hr) | ((with_reducible refine BodyR.id ?_); first | refine BodyR.ret ?_) | ((with_reducible refine ResG.id ?_); first | refine ResG.tmp rfl ?_ | refine ResG.nil ?_)
    exact Fin.weak (Weaker.refl _)
theorem low_specI (z : Int) : Pur cx 73 [.v (.int .u64 z)] (.v (.int .u32 (z % 4294967296))) := by
  refine Pur.ofW (sem_calls' cx (fn := Try.f73) rfl rfl rfl rfl ?_)
  repeat' first | refine Ops.tag rfl ?_ | (refine OpsT.go ?_; (conv => arg 7; whnf)) | refine Stp.pure rfl ?_ | refine Ops.nil ?_ | ((with_reducible refine SemWp.id ?_); first | refine sem_seq ?_ | refine sem_region rfl ?_ | refine sem_ret ?_) | ((with_reducible refine qThen.id ?_); first | refine qThen.go ?_) | ((with_reducible refine BodyR.id ?_); first | refine BodyR.ret ?_) | ((with_reducible refine ResG.id ?_); first | refine ResG.tmp rfl ?_ | refine ResG.nil ?_)
  refine Fin.weak (Weaker.eq ?_)
  show HV.v (.int .u32 (IntKind.u32.wrap z)) = _
  rw [IntKind.wrap_u32]
theorem low_spec (x : Nat) : Pur cx 73 [u64 x] (u32 (x % B)) := by
  refine Pur.ofW (sem_calls' cx (fn := Try.f73) rfl rfl rfl rfl ?_)
  repeat' first | refine Ops.tag rfl ?_ | (refine OpsT.go ?_; (conv => arg 7; whnf)) | refine Stp.pure rfl ?_ | refine Ops.nil ?_ | ((with_reducible refine SemWp.id ?_); first | refine sem_seq ?_ | refine sem_region rfl ?_ | refine sem_ret ?_) | ((with_reducible refine qThen.id ?_); first | refine qThen.go ?_) | ((with_reducible refine BodyR.id ?_); first | refine BodyR.ret ?_) | ((with_reducible refine ResG.id ?_); first | refine ResG.tmp rfl ?_ | refine ResG.nil ?_)
  refine Fin.weak (Weaker.eq ?_)
  show HV.v (.int .u32 (IntKind.u32.wrap (x : Int))) = _
  rw [IntKind.wrap_u32]
  rfl
theorem clone_spec (l : List Nat) (hl : l.length ≤ 1099511627776) : Pur cx 72 [LL l] (LL l) := by
  have hm : (l.map u32).length = l.length := by simp
  refine Pur.ofW (sem_calls' cx (fn := Try.f72) rfl rfl rfl rfl ?_)
  repeat' first | refine Ops.tag rfl ?_ | (refine OpsT.go ?_; (conv => arg 7; whnf)) | refine Stp.pure rfl ?_ | refine PutK.mk' rfl ?_ | refine Ops.nil ?_ | ((with_reducible refine Side.id ?_); first | refine Side.auto ?_) | ((with_reducible refine Br.id ?_); first | refine br_split (fun _ => ?_) (fun _ => ?_)) | ((with_reducible refine SemWp.id ?_); first | refine sem_seq ?_ | refine sem_region rfl ?_ | refine sem_cond rfl ?_ | refine sem_ret ?_ | refine sem_skip ?_) | ((with_reducible refine qThen.id ?_); first | refine qThen.go ?_ | refine qThen.ret ?_) | refine Stp.eff ?_ | (refine newN (fun r hr => ?_); simp only [keys, List.nil_append, List.cons_append, List.map_cons, List.map_nil, List.mem_cons, List.not_mem_nil, not_or, or_false, not_false_eq_true] at hr) | ((with_reducible refine BodyR.id ?_); first | refine BodyR.ret ?_) | ((with_reducible refine ResG.id ?_); first | refine ResG.tmp rfl ?_ | refine ResG.nil ?_) | ((with_reducible refine Grow2.id ?_); refine Grow2.own ?_) | refine newB (fun b hb => ?_) | refine grow_split (fun _ => ?_) (fun _ => ?_)
  · rename_i h
    exact Fin.weak (by rw [LL, hb h]; exact Weaker.nil 1)
  · rename_i h
    exact Fin.weak (by rw [LL, h]; exact Weaker.tok _ _ _)
  · exact Fin.weak (Weaker.tok _ _ _)
theorem sg_ofZ (n : Bool) (V : Nat) : ofZ (sg n V) = ⟨n && decide (V ≠ 0), nl V⟩ := by
  unfold ofZ sg
  cases n with
  | true =>
    simp only [if_true]
    rw [show (-(V : Int)).natAbs = V from by omega, Bool.true_and]
    congr 1
    rw [decide_eq_decide]; omega
  | false =>
    simp only [Bool.false_eq_true, if_false, Bool.false_and, Int.natAbs_natCast]
    rw [show decide ((V : Int) < 0) = false from decide_eq_false (by omega)]
theorem made_spec (n : Bool) (l : List Nat) (hl : Lim l) (hn : l.length ≤ 1099511627776) : Pur cx 56 [bb n, LL l] (encI (ofZ (sg n (vl l)))) := by
  have hm : (l.map u32).length = l.length := by simp
  rw [sg_ofZ]
  change Pur cx _ _ (encP _ _)
  refine Pur.ofW (sem_calls' cx (fn := Try.f56) rfl rfl rfl rfl ?_)
  repeat' first | refine Ops.tag rfl ?_ | (refine OpsT.go ?_; (conv => arg 7; whnf)) | refine Stp.pure rfl ?_ | refine PutK.mk' rfl ?_ | refine Ops.nil ?_ | ((with_reducible refine SemWp.id ?_); first | refine sem_seq ?_ | refine sem_region rfl ?_ | refine sem_block ?_) | ((with_reducible refine qThen.id ?_); first | refine qThen.go ?_) | refine Stp.eff ?_ | (refine newN (fun r hr => ?_); simp only [keys, List.nil_append, List.cons_append, List.map_cons, List.map_nil, List.mem_cons, List.not_mem_nil, not_or, or_false, not_false_eq_true] at hr)
  refine sem_loop cx (ι := Nat) (fun k => k ≤ l.length ∧ ∀ j (hj : j < l.length), k ≤ j → l[j] = 0) (fun k => [(0, .sure, bb n), (1, .sure, LL l), (4, .sure, .ptr r 0), (5, .sure, ii k)]) (fun _ => [(r, .cells [bb false, .v (.slice none 0 0)] 40)]) (fun k => k) l.length ⟨Nat.le_refl _, fun j h1 h2 => by omega⟩ (Sub.cons rfl rfl (Sub.cons rfl rfl (Sub.cons rfl rfl (Sub.cons rfl (by rw [hm]; rfl) (Sub.nil _))))) (Subp.refl _) ?_
  rintro k ⟨k1, k2⟩
  by_cases h0 : k = 0
  · subst h0
    repeat' first | refine Ops.tag rfl ?_ | (with_reducible first | refine OpsT.no ?_) | (refine OpsT.go ?_; (conv => arg 7; whnf)) | (with_reducible first | refine Stp.andF ?_) | ((with_reducible refine Stp.isDec ?_); first | refine Stp.decF ?_) | ((with_reducible refine Stp.isEq ?_); first | refine Stp.eqT ?_) | refine Stp.pure rfl ?_ | ((with_reducible refine PutK.isSet ?_); refine PutK.set (by repeat first | exact HsetIs.hit) ?_) | refine PutK.mk' rfl ?_ | refine Ops.nil ?_ | ((with_reducible refine Look.id ?_); refine Look.auto ?_ (by repeat first | exact HGet.hit); try (conv => arg 7; whnf)) | ((with_reducible refine Side.id ?_); first | refine Side.auto ?_) | ((with_reducible refine Br.id ?_); first | (with_reducible first | refine br_true rfl ?_ | refine br_false rfl ?_)) | ((with_reducible refine SemWp.id ?_); first | refine sem_seq ?_ | refine sem_region rfl ?_ | refine sem_cond rfl ?_ | refine sem_exit ?_ | refine sem_ret ?_) | ((with_reducible refine qThen.id ?_); first | refine qThen.go ?_ | refine qThen.ret ?_) | refine Stp.valS ?_ | refine Stp.look ?_ | refine Stp.eff ?_ | ((with_reducible refine BodyR.id ?_); first | refine BodyR.ret ?_) | ((with_reducible refine ResG.id ?_); first | refine ResG.cell rfl ?_ | refine ResG.nil ?_) | ((with_reducible refine LoadIs.id ?_); first | refine LoadIs.agg (by repeat first | exact HGet.hit) rfl rfl rfl ?_) | ((with_reducible refine Upd.id ?_); first | (refine Upd.lit rfl ?_; (conv => whnf)))
    refine Fin.weak ?_
    have e := trim_eq hl (Nat.zero_le _) k2 (fun h => by omega)
    rw [List.take_zero] at e
    have v : vl l = 0 := by rw [← vl_nl (vl l), ← e]; rfl
    rw [v, nl_zero]
    exact Weaker.agg (.cons (Weaker.eq (by cases n <;> rfl)) rfl (.cons (Weaker.nil 1) rfl .nil))
  · have g1 : (l.map u32).getD ((k : Int) - 1).toNat default = .v (.int .u32 (l[k - 1]'(by omega) : Int)) := getD_u32 (n := k - 1) (by omega) (by omega)
    have hC := clone_spec (l.take k) (by simp; omega)
    have hcut : List.drop 0 (List.take ((k : Int)).toNat (l.map u32)) = (l.take k).map u32 := by simp
    repeat' first | refine Ops.tag rfl ?_ | ((with_reducible first | refine OpsT.yes ?_); (conv => arg 7; whnf)) | (refine OpsT.go ?_; (conv => arg 7; whnf)) | (with_reducible first | refine Stp.andT ?_) | ((with_reducible refine Stp.isSum ?_); refine Stp.sum ?_) | ((with_reducible refine Stp.isDec ?_); first | refine Stp.decT ?_) | ((with_reducible refine Stp.isEq ?_); first | refine Stp.eqF ?_) | refine Stp.pure rfl ?_ | ((with_reducible refine PutK.isSet ?_); refine PutK.set (by repeat first | exact HsetIs.hit) ?_) | refine PutK.mk' rfl ?_ | refine Ops.nil ?_ | ((with_reducible refine Look.id ?_); refine Look.auto ?_ (by repeat first | exact HGet.hit); try (conv => arg 7; whnf)) | ((with_reducible refine Side.id ?_); first | refine Side.auto ?_) | ((with_reducible refine Br.id ?_); first | (with_reducible first | refine br_false rfl ?_) | refine br_dec (fun _ => ?_) (fun _ => ?_)) | ((with_reducible refine SemWp.id ?_); first | refine sem_seq ?_ | refine sem_region rfl ?_ | refine sem_cond rfl ?_ | refine sem_block ?_ | refine sem_exit ?_ | refine sem_ret ?_ | refine sem_skip ?_) | ((with_reducible refine qThen.id ?_); first | refine qThen.go ?_) | ((with_reducible refine hinBlock.id ?_); first | refine hinBlock.go ?_) | ((with_reducible refine hround.id ?_); first | refine hround.go ?_) | refine Stp.valS ?_ | refine Stp.look ?_ | refine Stp.call ?_ | refine Stp.eff ?_ | ((with_reducible refine CallWp.id ?_); first | refine Pur.call (hC) ?_) | ((with_reducible refine BodyR.id ?_); first | refine BodyR.ret ?_) | ((with_reducible refine ResG.id ?_); first | refine ResG.cell rfl ?_ | refine ResG.nil ?_) | ((with_reducible refine LoadIs.id ?_); first | refine LoadIs.agg (by repeat first | exact HGet.hit) rfl rfl rfl ?_) | ((with_reducible refine Upd.id ?_); first | (refine Upd.lit rfl ?_; (conv => whnf))) | rw [g1] | rw [hcut]
    · rename_i hz
      have hz : l[k - 1]'(by omega) = 0 := by omega
      refine Fin.mk ⟨k - 1, ⟨by omega, fun j h1 h2 => ?_⟩, by omega, Sub.cons rfl rfl (Sub.cons rfl rfl (Sub.cons rfl rfl (Sub.cons rfl ?_ (Sub.nil _)))), Subp.refl _⟩
      · rcases Nat.eq_or_lt_of_le h2 with rfl | h2
        · exact hz
        · exact k2 j h1 (by omega)
      · show HV.v (.int .i64 _) = ii _
        rw [show ((k - 1 : Nat) : Int) = (k : Int) - 1 from by omega]; rfl
    · rename_i hz
      have e := trim_eq hl k1 k2 (fun h => by omega)
      refine Fin.weak ?_
      have v : vl l ≠ 0 := by
        intro v
        rw [v, nl_zero] at e
        have := congrArg List.length e
        simp at this
        rcases this with h | h
        · omega
        · subst h; simp at k1; omega
      rw [← e]
      exact Weaker.agg (.cons (Weaker.eq (by show bb n = bb _; rw [decide_eq_true v, Bool.and_true])) rfl (.cons (Weaker.refl _) rfl .nil))
end Go.Proofs.Hk

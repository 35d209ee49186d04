import Derived.Test.YtcihapdaapkdjaaDoorU1
import Derived.Test.YtcihapdaapkdjaaDoorP13
set_option linter.unusedSimpArgs false
set_option linter.unusedVariables false
namespace Go.Proofs.Hk
open Go Go.Proofs Lx

theorem rp_size (a b : ByteArray) : ∀ k, (rp a b k).size = a.size + k * b.size
  | 0 => by simp [rp]
  | k + 1 => by rw [rp, ByteArray.size_append, rp_size a b k, Nat.succ_mul]; omega
theorem ahead_size : ∀ v, (aheadS v).2.size ≤ 3
  | 0 => by decide
  | 1 => by decide
  | 2 => by decide
  | n + 3 => by show (⟨#[91]⟩ : ByteArray).size ≤ 3; decide
theorem behind_size : ∀ v, (behindS v).size ≤ 1
  | 0 => by decide
  | 1 => by decide
  | 2 => by decide
  | n + 3 => by show (⟨#[93]⟩ : ByteArray).size ≤ 1; decide
theorem rp_step (a b : ByteArray) (i : Nat) : rp a (sp ++ b) i ++ ⟨#[32]⟩ ++ b = rp a (sp ++ b) (i + 1) := by
  rw [ByteArray.append_assoc]; rfl
theorem rp_le (a b : ByteArray) (i : Nat) (h : i ≤ 61) : (rp a b i).size ≤ a.size + 61 * b.size := by
  rw [rp_size]
  have := Nat.mul_le_mul_right b.size h
  omega
set_option maxHeartbeats 8000000 in
theorem pd0 (n c : Int) (hn : 0 ≤ n ∧ n ≤ 255) (K v : Nat) (hK : K < 60) (hv : v < 4) (tk0 : n.tmod 60 = K) (tm : c.tmod 4 = v) (h2 : v < 2) (h5 : K < 50) (A B : ByteArray) (za : A.size ≤ 3) (zb : B.size ≤ 1) (q1 q2 : List PD)
    (P1 : Pur cx 8 [ss (rp (rp ⟨#[112,114,111,99,32,109,32,40,32,41,32,123,32,120,32,61,32]⟩ (sp ++ A) (K + 1) ++ sp ++ ⟨#[49]⟩) (sp ++ B) (K + 1) ++ endS)] (.tup [.agg [LPDs q1], ii 0, ii 0])) (P2 : Pur cx 8 [ss (rp (rp head5S whileS (K + 1)) braceS (K + 1) ++ braceS)] (.tup [.agg [LPDs q2], ii 0, ii 0]))
    (ga : [HV.v (.string ⟨#[40]⟩), .v (.string ⟨#[45]⟩), .v (.string ⟨#[110, 111, 116]⟩), .v (.string ⟨#[91]⟩)].getD ((v : Nat) : Int).toNat default = ss A)
    (gb : [HV.v (.string ⟨#[41]⟩), .v (.string ⟨#[]⟩), .v (.string ⟨#[]⟩), .v (.string ⟨#[93]⟩)].getD ((v : Nat) : Int).toNat default = ss B) : Pur cx 5 [.v (.int .u8 n), .v (.int .u8 c)] (bb true) := by
  have s1 : (⟨#[112,114,111,99,32,109,32,40,32,41,32,123,32,120,32,61,32]⟩ : ByteArray).size ≤ 21 := by decide
  have s2 : (⟨#[49]⟩ : ByteArray).size ≤ 4 := by decide
  have s3 : sp.size = 1 := rfl
  have s4 : head5S.size = 12 := rfl
  have s5 : whileS.size = 10 := rfl
  have s6 : braceS.size = 2 := rfl
  have s7 : (⟨#[32]⟩ : ByteArray).size = 1 := rfl
  have s8 : (⟨#[32,59,32,125]⟩ : ByteArray).size = 4 := rfl
  have s9 : (⟨#[32,119,104,105,108,101,32,42,32,123]⟩ : ByteArray).size = 10 := rfl
  have s10 : (⟨#[32,125]⟩ : ByteArray).size = 2 := rfl
  refine Pur.of (sem_calls' cx (fn := Tryd.f5) rfl rfl rfl rfl ?_)
  repeat' first | refine Ops.tag rfl ?_ | (refine OpsT.go ?_; (conv => arg 7; whnf)) | ((with_reducible refine Stp.isSum ?_); refine Stp.sum ?_) | ((with_reducible refine Stp.isDec ?_); first | refine Stp.decF ?_) | refine Stp.pure rfl ?_ | refine Ops.nil ?_ | ((with_reducible refine Side.id ?_); first | refine Side.auto ?_) | ((with_reducible refine Br.id ?_); first | (with_reducible first | refine br_false rfl ?_)) | ((with_reducible refine SemWp.id ?_); first | refine sem_seq ?_ | refine sem_region rfl ?_ | refine sem_cond rfl ?_ | refine sem_block ?_ | refine sem_skip ?_) | ((with_reducible refine qThen.id ?_); first | refine qThen.go ?_) | refine Stp.valS ?_ | rw [tk0] | rw [tm] | rw [ga] | rw [gb]
  refine sem_loop cx (ι := Nat) (fun i => i ≤ K + 1) (fun i => [(5, .sure, ii (1 + K)), (6, .sure, ss A), (7, .sure, ss B), (8, .sure, ss ⟨#[112,114,111,99,32,109,32,40,32,41,32,123,32,120,32,61,32]⟩), (9, .sure, ss ⟨#[32,59,32,125]⟩), (10, .sure, ss ⟨#[49]⟩), (11, .sure, ss (rp ⟨#[112,114,111,99,32,109,32,40,32,41,32,123,32,120,32,61,32]⟩ (sp ++ A) i)), (12, .sure, ii i)]) (fun _ => []) (fun i => K + 1 - i) 0 (Nat.zero_le _) (by repeat' first | exact Sub.nil _ | refine Sub.auto ?_) (Subp.take (t := ?_) ?_) ?_
  rotate_left
  (repeat first | exact HTake.nil | (apply HTake.cons; focus (repeat first | exact HPick.hit | apply HPick.miss)))
  intro i i1
  by_cases hi : i < K + 1
  · have z1 := rp_le ⟨#[112,114,111,99,32,109,32,40,32,41,32,123,32,120,32,61,32]⟩ (sp ++ A) i (by omega); simp only [ByteArray.size_append] at z1
    repeat' first | refine Ops.tag rfl ?_ | (refine OpsT.go ?_; (conv => arg 7; whnf)) | ((with_reducible refine Stp.isSum ?_); refine Stp.sum ?_) | ((with_reducible refine Stp.isDec ?_); first | refine Stp.decT ?_) | refine Stp.pure rfl ?_ | refine Ops.nil ?_ | ((with_reducible refine Side.id ?_); first | (refine Side.mk (by simp only [ByteArray.size_append]; omega) ?_) | refine Side.auto ?_) | ((with_reducible refine Br.id ?_); first | (with_reducible first | refine br_true rfl ?_)) | ((with_reducible refine SemWp.id ?_); first | refine sem_seq ?_ | refine sem_region rfl ?_ | refine sem_cond rfl ?_ | refine sem_block ?_ | refine sem_skip ?_) | ((with_reducible refine qThen.id ?_); first | refine qThen.go ?_) | ((with_reducible refine hinBlock.id ?_); first | refine hinBlock.go ?_) | ((with_reducible refine hround.id ?_); first | refine hround.go ?_) | refine Stp.valS ?_
    refine Fin.mk ⟨i + 1, by omega, by omega, by repeat' first | exact Sub.nil _ | refine Sub.auto ?_ rfl (by first | rfl | assumption | omega | exact congrArg (fun x => HV.v (Value.string x)) (rp_step _ _ _)), Subp.take (t := ?_) ?_⟩
    rotate_left
    (repeat first | exact HTake.nil | (apply HTake.cons; focus (repeat first | exact HPick.hit | apply HPick.miss)))
  have hik : i = K + 1 := by omega
  subst hik
  clear hi i1
  have z1 := rp_le ⟨#[112,114,111,99,32,109,32,40,32,41,32,123,32,120,32,61,32]⟩ (sp ++ A) (K + 1) (by omega); simp only [ByteArray.size_append] at z1
  repeat' first | refine Ops.tag rfl ?_ | (refine OpsT.go ?_; (conv => arg 7; whnf)) | ((with_reducible refine Stp.isDec ?_); first | refine Stp.decF ?_) | refine Stp.pure rfl ?_ | refine Ops.nil ?_ | ((with_reducible refine Side.id ?_); first | (refine Side.mk (by simp only [ByteArray.size_append]; omega) ?_) | refine Side.auto ?_) | ((with_reducible refine Br.id ?_); first | (with_reducible first | refine br_false rfl ?_)) | ((with_reducible refine SemWp.id ?_); first | refine sem_seq ?_ | refine sem_region rfl ?_ | refine sem_cond rfl ?_ | refine sem_block ?_ | refine sem_exit ?_) | ((with_reducible refine qThen.id ?_); first | refine qThen.go ?_) | refine Stp.valS ?_
  refine sem_loop cx (ι := Nat) (fun i => i ≤ K + 1) (fun i => [(5, .sure, ii (1 + K)), (6, .sure, ss A), (7, .sure, ss B), (8, .sure, ss ⟨#[112,114,111,99,32,109,32,40,32,41,32,123,32,120,32,61,32]⟩), (9, .sure, ss ⟨#[32,59,32,125]⟩), (10, .sure, ss ⟨#[49]⟩), (11, .sure, ss (rp (rp ⟨#[112,114,111,99,32,109,32,40,32,41,32,123,32,120,32,61,32]⟩ (sp ++ A) (K + 1) ++ ⟨#[32]⟩ ++ ⟨#[49]⟩) (sp ++ B) i)), (13, .sure, ii i)]) (fun _ => []) (fun i => K + 1 - i) 0 (Nat.zero_le _) (by repeat' first | exact Sub.nil _ | refine Sub.auto ?_) (Subp.take (t := ?_) ?_) ?_
  rotate_left
  (repeat first | exact HTake.nil | (apply HTake.cons; focus (repeat first | exact HPick.hit | apply HPick.miss)))
  intro i i1
  by_cases hi : i < K + 1
  · have z2 := rp_le (rp ⟨#[112,114,111,99,32,109,32,40,32,41,32,123,32,120,32,61,32]⟩ (sp ++ A) (K + 1) ++ ⟨#[32]⟩ ++ ⟨#[49]⟩) (sp ++ B) i (by omega); simp only [ByteArray.size_append] at z2
    repeat' first | refine Ops.tag rfl ?_ | (refine OpsT.go ?_; (conv => arg 7; whnf)) | ((with_reducible refine Stp.isSum ?_); refine Stp.sum ?_) | ((with_reducible refine Stp.isDec ?_); first | refine Stp.decT ?_) | refine Stp.pure rfl ?_ | refine Ops.nil ?_ | ((with_reducible refine Side.id ?_); first | (refine Side.mk (by simp only [ByteArray.size_append]; omega) ?_) | refine Side.auto ?_) | ((with_reducible refine Br.id ?_); first | (with_reducible first | refine br_true rfl ?_)) | ((with_reducible refine SemWp.id ?_); first | refine sem_seq ?_ | refine sem_region rfl ?_ | refine sem_cond rfl ?_ | refine sem_block ?_ | refine sem_skip ?_) | ((with_reducible refine qThen.id ?_); first | refine qThen.go ?_) | ((with_reducible refine hinBlock.id ?_); first | refine hinBlock.go ?_) | ((with_reducible refine hround.id ?_); first | refine hround.go ?_) | refine Stp.valS ?_
    refine Fin.mk ⟨i + 1, by omega, by omega, by repeat' first | exact Sub.nil _ | refine Sub.auto ?_ rfl (by first | rfl | assumption | omega | exact congrArg (fun x => HV.v (Value.string x)) (rp_step _ _ _)), Subp.take (t := ?_) ?_⟩
    rotate_left
    (repeat first | exact HTake.nil | (apply HTake.cons; focus (repeat first | exact HPick.hit | apply HPick.miss)))
  have hik : i = K + 1 := by omega
  subst hik
  clear hi i1
  have z2 := rp_le (rp ⟨#[112,114,111,99,32,109,32,40,32,41,32,123,32,120,32,61,32]⟩ (sp ++ A) (K + 1) ++ ⟨#[32]⟩ ++ ⟨#[49]⟩) (sp ++ B) (K + 1) (by omega); simp only [ByteArray.size_append] at z2
  repeat' first | refine Ops.tag rfl ?_ | (refine OpsT.go ?_; (conv => arg 7; whnf)) | ((with_reducible refine Stp.isDec ?_); first | refine Stp.decF ?_) | refine Stp.pure rfl ?_ | ((with_reducible refine PutK.isSet ?_); refine PutK.set (by repeat first | exact HsetIs.hit) ?_) | refine PutK.mk' rfl ?_ | refine Ops.nil ?_ | ((with_reducible refine Look.id ?_); refine Look.auto ?_ (by repeat first | exact HGet.hit); try (conv => arg 7; whnf)) | ((with_reducible refine Side.id ?_); first | refine Side.auto ?_) | ((with_reducible refine Br.id ?_); first | (with_reducible first | refine br_false rfl ?_)) | ((with_reducible refine SemWp.id ?_); first | refine sem_seq ?_ | refine sem_region rfl ?_ | refine sem_cond rfl ?_ | refine sem_block ?_ | refine sem_exit ?_) | ((with_reducible refine qThen.id ?_); first | refine qThen.go ?_) | refine Stp.valS ?_ | refine Stp.look ?_ | refine Stp.call ?_ | refine Stp.eff ?_ | ((with_reducible refine CallWp.id ?_); first | refine Pur.call (P1) ?_) | (refine newN (fun r hr => ?_); simp only [keys, List.nil_append, List.cons_append, List.map_cons, List.map_nil, List.mem_cons, List.not_mem_nil, not_or, or_false, not_false_eq_true] at hr; (repeat (obtain ⟨_, hr⟩ := hr))) | ((with_reducible refine Upd.id ?_); first | (refine Upd.lit rfl ?_; (conv => whnf)))
  refine sem_loop cx (ι := Nat) (fun i => i ≤ K + 1) (fun i => [(5, .sure, ii (1 + K)), (6, .sure, ss A), (8, .sure, ss ⟨#[112,114,111,99,32,109,32,40,32,41,32,123,32,120,32,61,32]⟩), (15, .sure, ii 0), (16, .sure, ii 0), (17, .sure, ss (rp head5S whileS i)), (18, .sure, ii i)]) (fun _ => []) (fun i => K + 1 - i) 0 (Nat.zero_le _) (by repeat' first | exact Sub.nil _ | refine Sub.auto ?_) (Subp.take (t := ?_) ?_) ?_
  rotate_left
  (repeat first | exact HTake.nil | (apply HTake.cons; focus (repeat first | exact HPick.hit | apply HPick.miss)))
  intro i i1
  by_cases hi : i < K + 1
  · have z3 := rp_le head5S whileS i (by omega)
    repeat' first | refine Ops.tag rfl ?_ | (refine OpsT.go ?_; (conv => arg 7; whnf)) | ((with_reducible refine Stp.isSum ?_); refine Stp.sum ?_) | ((with_reducible refine Stp.isDec ?_); first | refine Stp.decT ?_) | refine Stp.pure rfl ?_ | refine Ops.nil ?_ | ((with_reducible refine Side.id ?_); first | refine Side.auto ?_) | ((with_reducible refine Br.id ?_); first | (with_reducible first | refine br_true rfl ?_)) | ((with_reducible refine SemWp.id ?_); first | refine sem_seq ?_ | refine sem_region rfl ?_ | refine sem_cond rfl ?_ | refine sem_block ?_ | refine sem_skip ?_) | ((with_reducible refine qThen.id ?_); first | refine qThen.go ?_) | ((with_reducible refine hinBlock.id ?_); first | refine hinBlock.go ?_) | ((with_reducible refine hround.id ?_); first | refine hround.go ?_) | refine Stp.valS ?_
    refine Fin.mk ⟨i + 1, by omega, by omega, by repeat' first | exact Sub.nil _ | refine Sub.auto ?_ rfl (by first | rfl | assumption | omega | exact congrArg (fun x => HV.v (Value.string x)) (rp_step _ _ _)), Subp.take (t := ?_) ?_⟩
    rotate_left
    (repeat first | exact HTake.nil | (apply HTake.cons; focus (repeat first | exact HPick.hit | apply HPick.miss)))
  have hik : i = K + 1 := by omega
  subst hik
  clear hi i1
  have z3 := rp_le head5S whileS (K + 1) (by omega)
  repeat' first | refine Ops.tag rfl ?_ | (refine OpsT.go ?_; (conv => arg 7; whnf)) | ((with_reducible refine Stp.isDec ?_); first | refine Stp.decF ?_) | refine Stp.pure rfl ?_ | refine Ops.nil ?_ | ((with_reducible refine Br.id ?_); first | (with_reducible first | refine br_false rfl ?_)) | ((with_reducible refine SemWp.id ?_); first | refine sem_seq ?_ | refine sem_region rfl ?_ | refine sem_cond rfl ?_ | refine sem_block ?_ | refine sem_exit ?_) | ((with_reducible refine qThen.id ?_); first | refine qThen.go ?_)
  refine sem_loop cx (ι := Nat) (fun i => i ≤ K + 1) (fun i => [(5, .sure, ii (1 + K)), (6, .sure, ss A), (8, .sure, ss ⟨#[112,114,111,99,32,109,32,40,32,41,32,123,32,120,32,61,32]⟩), (15, .sure, ii 0), (16, .sure, ii 0), (17, .sure, ss (rp (rp head5S whileS (K + 1)) braceS i)), (19, .sure, ii i)]) (fun _ => []) (fun i => K + 1 - i) 0 (Nat.zero_le _) (by repeat' first | exact Sub.nil _ | refine Sub.auto ?_) (Subp.take (t := ?_) ?_) ?_
  rotate_left
  (repeat first | exact HTake.nil | (apply HTake.cons; focus (repeat first | exact HPick.hit | apply HPick.miss)))
  intro i i1
  by_cases hi : i < K + 1
  · have z4 := rp_le (rp head5S whileS (K + 1)) braceS i (by omega)
    repeat' first | refine Ops.tag rfl ?_ | (refine OpsT.go ?_; (conv => arg 7; whnf)) | ((with_reducible refine Stp.isSum ?_); refine Stp.sum ?_) | ((with_reducible refine Stp.isDec ?_); first | refine Stp.decT ?_) | refine Stp.pure rfl ?_ | refine Ops.nil ?_ | ((with_reducible refine Side.id ?_); first | refine Side.auto ?_) | ((with_reducible refine Br.id ?_); first | (with_reducible first | refine br_true rfl ?_)) | ((with_reducible refine SemWp.id ?_); first | refine sem_seq ?_ | refine sem_region rfl ?_ | refine sem_cond rfl ?_ | refine sem_block ?_ | refine sem_skip ?_) | ((with_reducible refine qThen.id ?_); first | refine qThen.go ?_) | ((with_reducible refine hinBlock.id ?_); first | refine hinBlock.go ?_) | ((with_reducible refine hround.id ?_); first | refine hround.go ?_) | refine Stp.valS ?_
    refine Fin.mk ⟨i + 1, by omega, by omega, by repeat' first | exact Sub.nil _ | refine Sub.auto ?_ rfl (by first | rfl | assumption | omega | exact congrArg (fun x => HV.v (Value.string x)) (rp_step _ _ _)), Subp.take (t := ?_) ?_⟩
    rotate_left
    (repeat first | exact HTake.nil | (apply HTake.cons; focus (repeat first | exact HPick.hit | apply HPick.miss)))
  have hik : i = K + 1 := by omega
  subst hik
  clear hi i1
  have z4 := rp_le (rp head5S whileS (K + 1)) braceS (K + 1) (by omega)
  repeat' first | refine Ops.tag rfl ?_ | ((with_reducible first | refine OpsT.yes ?_); (conv => arg 7; whnf)) | (refine OpsT.go ?_; (conv => arg 7; whnf)) | (with_reducible first | refine Stp.andT ?_) | ((with_reducible refine Stp.isDec ?_); first | refine Stp.decT ?_ | refine Stp.decF ?_) | ((with_reducible refine Stp.isEq ?_); first | refine Stp.eqT ?_) | refine Stp.pure rfl ?_ | ((with_reducible refine PutK.isSet ?_); refine PutK.set (by repeat first | exact HsetIs.hit) ?_) | refine PutK.mk' rfl ?_ | refine Ops.nil ?_ | ((with_reducible refine Look.id ?_); refine Look.auto ?_ (by repeat first | exact HGet.hit); try (conv => arg 7; whnf)) | ((with_reducible refine Side.id ?_); first | refine Side.auto ?_) | ((with_reducible refine Br.id ?_); first | (with_reducible first | refine br_true rfl ?_ | refine br_false rfl ?_)) | ((with_reducible refine SemWp.id ?_); first | refine sem_seq ?_ | refine sem_region rfl ?_ | refine sem_cond rfl ?_ | refine sem_exit ?_ | refine sem_ret ?_) | ((with_reducible refine qThen.id ?_); first | refine qThen.go ?_ | refine qThen.ret ?_) | refine Stp.valS ?_ | refine Stp.look ?_ | refine Stp.call ?_ | refine Stp.eff ?_ | ((with_reducible refine CallWp.id ?_); first | refine Pur.call (P2) ?_ | refine Pur.call (Num_spec _) ?_ | refine Pur.call (awake_spec) ?_) | (refine newN (fun r hr => ?_); simp only [keys, List.nil_append, List.cons_append, List.map_cons, List.map_nil, List.mem_cons, List.not_mem_nil, not_or, or_false, not_false_eq_true] at hr; (repeat (obtain ⟨_, hr⟩ := hr))) | ((with_reducible refine BodyR.id ?_); first | refine BodyR.ret ?_) | ((with_reducible refine ResG.id ?_); first | refine ResG.tmp rfl ?_ | refine ResG.nil ?_) | ((with_reducible refine Upd.id ?_); first | (refine Upd.lit rfl ?_; (conv => whnf)))
  first | exact Fin.mk rfl | (have e0 : (⟨#[112,114,111,99,32,109,32,40,32,41,32,123,32,120,32,61,32]⟩ : ByteArray).size = 17 := rfl; exact Fin.mk (by rw [e0]; simp [tupOf, bb]))
set_option maxHeartbeats 8000000 in
theorem pd1 (n c : Int) (hn : 0 ≤ n ∧ n ≤ 255) (K v : Nat) (hK : K < 60) (hv : v < 4) (tk0 : n.tmod 60 = K) (tm : c.tmod 4 = v) (h2 : v < 2) (h5 : ¬ K < 50) (A B : ByteArray) (za : A.size ≤ 3) (zb : B.size ≤ 1) (q1 q2 : List PD)
    (P1 : Pur cx 8 [ss (rp (rp ⟨#[112,114,111,99,32,109,32,40,32,41,32,123,32,120,32,61,32]⟩ (sp ++ A) (K + 1) ++ sp ++ ⟨#[49]⟩) (sp ++ B) (K + 1) ++ endS)] (.tup [.agg [LPDs q1], ii 5, ii (17 + 50 * (1 + (A.size : Int)) + 1)])) (P2 : Pur cx 8 [ss (rp (rp head5S whileS (K + 1)) braceS (K + 1) ++ braceS)] (.tup [.agg [LPDs q2], ii 5, ii 521]))
    (ga : [HV.v (.string ⟨#[40]⟩), .v (.string ⟨#[45]⟩), .v (.string ⟨#[110, 111, 116]⟩), .v (.string ⟨#[91]⟩)].getD ((v : Nat) : Int).toNat default = ss A)
    (gb : [HV.v (.string ⟨#[41]⟩), .v (.string ⟨#[]⟩), .v (.string ⟨#[]⟩), .v (.string ⟨#[93]⟩)].getD ((v : Nat) : Int).toNat default = ss B) : Pur cx 5 [.v (.int .u8 n), .v (.int .u8 c)] (bb true) := by
  have s1 : (⟨#[112,114,111,99,32,109,32,40,32,41,32,123,32,120,32,61,32]⟩ : ByteArray).size ≤ 21 := by decide
  have s2 : (⟨#[49]⟩ : ByteArray).size ≤ 4 := by decide
  have s3 : sp.size = 1 := rfl
  have s4 : head5S.size = 12 := rfl
  have s5 : whileS.size = 10 := rfl
  have s6 : braceS.size = 2 := rfl
  have s7 : (⟨#[32]⟩ : ByteArray).size = 1 := rfl
  have s8 : (⟨#[32,59,32,125]⟩ : ByteArray).size = 4 := rfl
  have s9 : (⟨#[32,119,104,105,108,101,32,42,32,123]⟩ : ByteArray).size = 10 := rfl
  have s10 : (⟨#[32,125]⟩ : ByteArray).size = 2 := rfl
  refine Pur.of (sem_calls' cx (fn := Tryd.f5) rfl rfl rfl rfl ?_)
  repeat' first | refine Ops.tag rfl ?_ | (refine OpsT.go ?_; (conv => arg 7; whnf)) | ((with_reducible refine Stp.isSum ?_); refine Stp.sum ?_) | ((with_reducible refine Stp.isDec ?_); first | refine Stp.decF ?_) | refine Stp.pure rfl ?_ | refine Ops.nil ?_ | ((with_reducible refine Side.id ?_); first | refine Side.auto ?_) | ((with_reducible refine Br.id ?_); first | (with_reducible first | refine br_false rfl ?_)) | ((with_reducible refine SemWp.id ?_); first | refine sem_seq ?_ | refine sem_region rfl ?_ | refine sem_cond rfl ?_ | refine sem_block ?_ | refine sem_skip ?_) | ((with_reducible refine qThen.id ?_); first | refine qThen.go ?_) | refine Stp.valS ?_ | rw [tk0] | rw [tm] | rw [ga] | rw [gb]
  refine sem_loop cx (ι := Nat) (fun i => i ≤ K + 1) (fun i => [(5, .sure, ii (1 + K)), (6, .sure, ss A), (7, .sure, ss B), (8, .sure, ss ⟨#[112,114,111,99,32,109,32,40,32,41,32,123,32,120,32,61,32]⟩), (9, .sure, ss ⟨#[32,59,32,125]⟩), (10, .sure, ss ⟨#[49]⟩), (11, .sure, ss (rp ⟨#[112,114,111,99,32,109,32,40,32,41,32,123,32,120,32,61,32]⟩ (sp ++ A) i)), (12, .sure, ii i)]) (fun _ => []) (fun i => K + 1 - i) 0 (Nat.zero_le _) (by repeat' first | exact Sub.nil _ | refine Sub.auto ?_) (Subp.take (t := ?_) ?_) ?_
  rotate_left
  (repeat first | exact HTake.nil | (apply HTake.cons; focus (repeat first | exact HPick.hit | apply HPick.miss)))
  intro i i1
  by_cases hi : i < K + 1
  · have z1 := rp_le ⟨#[112,114,111,99,32,109,32,40,32,41,32,123,32,120,32,61,32]⟩ (sp ++ A) i (by omega); simp only [ByteArray.size_append] at z1
    repeat' first | refine Ops.tag rfl ?_ | (refine OpsT.go ?_; (conv => arg 7; whnf)) | ((with_reducible refine Stp.isSum ?_); refine Stp.sum ?_) | ((with_reducible refine Stp.isDec ?_); first | refine Stp.decT ?_) | refine Stp.pure rfl ?_ | refine Ops.nil ?_ | ((with_reducible refine Side.id ?_); first | (refine Side.mk (by simp only [ByteArray.size_append]; omega) ?_) | refine Side.auto ?_) | ((with_reducible refine Br.id ?_); first | (with_reducible first | refine br_true rfl ?_)) | ((with_reducible refine SemWp.id ?_); first | refine sem_seq ?_ | refine sem_region rfl ?_ | refine sem_cond rfl ?_ | refine sem_block ?_ | refine sem_skip ?_) | ((with_reducible refine qThen.id ?_); first | refine qThen.go ?_) | ((with_reducible refine hinBlock.id ?_); first | refine hinBlock.go ?_) | ((with_reducible refine hround.id ?_); first | refine hround.go ?_) | refine Stp.valS ?_
    refine Fin.mk ⟨i + 1, by omega, by omega, by repeat' first | exact Sub.nil _ | refine Sub.auto ?_ rfl (by first | rfl | assumption | omega | exact congrArg (fun x => HV.v (Value.string x)) (rp_step _ _ _)), Subp.take (t := ?_) ?_⟩
    rotate_left
    (repeat first | exact HTake.nil | (apply HTake.cons; focus (repeat first | exact HPick.hit | apply HPick.miss)))
  have hik : i = K + 1 := by omega
  subst hik
  clear hi i1
  have z1 := rp_le ⟨#[112,114,111,99,32,109,32,40,32,41,32,123,32,120,32,61,32]⟩ (sp ++ A) (K + 1) (by omega); simp only [ByteArray.size_append] at z1
  repeat' first | refine Ops.tag rfl ?_ | (refine OpsT.go ?_; (conv => arg 7; whnf)) | ((with_reducible refine Stp.isDec ?_); first | refine Stp.decF ?_) | refine Stp.pure rfl ?_ | refine Ops.nil ?_ | ((with_reducible refine Side.id ?_); first | (refine Side.mk (by simp only [ByteArray.size_append]; omega) ?_) | refine Side.auto ?_) | ((with_reducible refine Br.id ?_); first | (with_reducible first | refine br_false rfl ?_)) | ((with_reducible refine SemWp.id ?_); first | refine sem_seq ?_ | refine sem_region rfl ?_ | refine sem_cond rfl ?_ | refine sem_block ?_ | refine sem_exit ?_) | ((with_reducible refine qThen.id ?_); first | refine qThen.go ?_) | refine Stp.valS ?_
  refine sem_loop cx (ι := Nat) (fun i => i ≤ K + 1) (fun i => [(5, .sure, ii (1 + K)), (6, .sure, ss A), (7, .sure, ss B), (8, .sure, ss ⟨#[112,114,111,99,32,109,32,40,32,41,32,123,32,120,32,61,32]⟩), (9, .sure, ss ⟨#[32,59,32,125]⟩), (10, .sure, ss ⟨#[49]⟩), (11, .sure, ss (rp (rp ⟨#[112,114,111,99,32,109,32,40,32,41,32,123,32,120,32,61,32]⟩ (sp ++ A) (K + 1) ++ ⟨#[32]⟩ ++ ⟨#[49]⟩) (sp ++ B) i)), (13, .sure, ii i)]) (fun _ => []) (fun i => K + 1 - i) 0 (Nat.zero_le _) (by repeat' first | exact Sub.nil _ | refine Sub.auto ?_) (Subp.take (t := ?_) ?_) ?_
  rotate_left
  (repeat first | exact HTake.nil | (apply HTake.cons; focus (repeat first | exact HPick.hit | apply HPick.miss)))
  intro i i1
  by_cases hi : i < K + 1
  · have z2 := rp_le (rp ⟨#[112,114,111,99,32,109,32,40,32,41,32,123,32,120,32,61,32]⟩ (sp ++ A) (K + 1) ++ ⟨#[32]⟩ ++ ⟨#[49]⟩) (sp ++ B) i (by omega); simp only [ByteArray.size_append] at z2
    repeat' first | refine Ops.tag rfl ?_ | (refine OpsT.go ?_; (conv => arg 7; whnf)) | ((with_reducible refine Stp.isSum ?_); refine Stp.sum ?_) | ((with_reducible refine Stp.isDec ?_); first | refine Stp.decT ?_) | refine Stp.pure rfl ?_ | refine Ops.nil ?_ | ((with_reducible refine Side.id ?_); first | (refine Side.mk (by simp only [ByteArray.size_append]; omega) ?_) | refine Side.auto ?_) | ((with_reducible refine Br.id ?_); first | (with_reducible first | refine br_true rfl ?_)) | ((with_reducible refine SemWp.id ?_); first | refine sem_seq ?_ | refine sem_region rfl ?_ | refine sem_cond rfl ?_ | refine sem_block ?_ | refine sem_skip ?_) | ((with_reducible refine qThen.id ?_); first | refine qThen.go ?_) | ((with_reducible refine hinBlock.id ?_); first | refine hinBlock.go ?_) | ((with_reducible refine hround.id ?_); first | refine hround.go ?_) | refine Stp.valS ?_
    refine Fin.mk ⟨i + 1, by omega, by omega, by repeat' first | exact Sub.nil _ | refine Sub.auto ?_ rfl (by first | rfl | assumption | omega | exact congrArg (fun x => HV.v (Value.string x)) (rp_step _ _ _)), Subp.take (t := ?_) ?_⟩
    rotate_left
    (repeat first | exact HTake.nil | (apply HTake.cons; focus (repeat first | exact HPick.hit | apply HPick.miss)))
  have hik : i = K + 1 := by omega
  subst hik
  clear hi i1
  have z2 := rp_le (rp ⟨#[112,114,111,99,32,109,32,40,32,41,32,123,32,120,32,61,32]⟩ (sp ++ A) (K + 1) ++ ⟨#[32]⟩ ++ ⟨#[49]⟩) (sp ++ B) (K + 1) (by omega); simp only [ByteArray.size_append] at z2
  repeat' first | refine Ops.tag rfl ?_ | (refine OpsT.go ?_; (conv => arg 7; whnf)) | ((with_reducible refine Stp.isDec ?_); first | refine Stp.decF ?_) | refine Stp.pure rfl ?_ | ((with_reducible refine PutK.isSet ?_); refine PutK.set (by repeat first | exact HsetIs.hit) ?_) | refine PutK.mk' rfl ?_ | refine Ops.nil ?_ | ((with_reducible refine Look.id ?_); refine Look.auto ?_ (by repeat first | exact HGet.hit); try (conv => arg 7; whnf)) | ((with_reducible refine Side.id ?_); first | refine Side.auto ?_) | ((with_reducible refine Br.id ?_); first | (with_reducible first | refine br_false rfl ?_)) | ((with_reducible refine SemWp.id ?_); first | refine sem_seq ?_ | refine sem_region rfl ?_ | refine sem_cond rfl ?_ | refine sem_block ?_ | refine sem_exit ?_) | ((with_reducible refine qThen.id ?_); first | refine qThen.go ?_) | refine Stp.valS ?_ | refine Stp.look ?_ | refine Stp.call ?_ | refine Stp.eff ?_ | ((with_reducible refine CallWp.id ?_); first | refine Pur.call (P1) ?_) | (refine newN (fun r hr => ?_); simp only [keys, List.nil_append, List.cons_append, List.map_cons, List.map_nil, List.mem_cons, List.not_mem_nil, not_or, or_false, not_false_eq_true] at hr; (repeat (obtain ⟨_, hr⟩ := hr))) | ((with_reducible refine Upd.id ?_); first | (refine Upd.lit rfl ?_; (conv => whnf)))
  refine sem_loop cx (ι := Nat) (fun i => i ≤ K + 1) (fun i => [(5, .sure, ii (1 + K)), (6, .sure, ss A), (8, .sure, ss ⟨#[112,114,111,99,32,109,32,40,32,41,32,123,32,120,32,61,32]⟩), (15, .sure, ii 5), (16, .sure, ii (17 + 50 * (1 + (A.size : Int)) + 1)), (17, .sure, ss (rp head5S whileS i)), (18, .sure, ii i)]) (fun _ => []) (fun i => K + 1 - i) 0 (Nat.zero_le _) (by repeat' first | exact Sub.nil _ | refine Sub.auto ?_) (Subp.take (t := ?_) ?_) ?_
  rotate_left
  (repeat first | exact HTake.nil | (apply HTake.cons; focus (repeat first | exact HPick.hit | apply HPick.miss)))
  intro i i1
  by_cases hi : i < K + 1
  · have z3 := rp_le head5S whileS i (by omega)
    repeat' first | refine Ops.tag rfl ?_ | (refine OpsT.go ?_; (conv => arg 7; whnf)) | ((with_reducible refine Stp.isSum ?_); refine Stp.sum ?_) | ((with_reducible refine Stp.isDec ?_); first | refine Stp.decT ?_) | refine Stp.pure rfl ?_ | refine Ops.nil ?_ | ((with_reducible refine Side.id ?_); first | refine Side.auto ?_) | ((with_reducible refine Br.id ?_); first | (with_reducible first | refine br_true rfl ?_)) | ((with_reducible refine SemWp.id ?_); first | refine sem_seq ?_ | refine sem_region rfl ?_ | refine sem_cond rfl ?_ | refine sem_block ?_ | refine sem_skip ?_) | ((with_reducible refine qThen.id ?_); first | refine qThen.go ?_) | ((with_reducible refine hinBlock.id ?_); first | refine hinBlock.go ?_) | ((with_reducible refine hround.id ?_); first | refine hround.go ?_) | refine Stp.valS ?_
    refine Fin.mk ⟨i + 1, by omega, by omega, by repeat' first | exact Sub.nil _ | refine Sub.auto ?_ rfl (by first | rfl | assumption | omega | exact congrArg (fun x => HV.v (Value.string x)) (rp_step _ _ _)), Subp.take (t := ?_) ?_⟩
    rotate_left
    (repeat first | exact HTake.nil | (apply HTake.cons; focus (repeat first | exact HPick.hit | apply HPick.miss)))
  have hik : i = K + 1 := by omega
  subst hik
  clear hi i1
  have z3 := rp_le head5S whileS (K + 1) (by omega)
  repeat' first | refine Ops.tag rfl ?_ | (refine OpsT.go ?_; (conv => arg 7; whnf)) | ((with_reducible refine Stp.isDec ?_); first | refine Stp.decF ?_) | refine Stp.pure rfl ?_ | refine Ops.nil ?_ | ((with_reducible refine Br.id ?_); first | (with_reducible first | refine br_false rfl ?_)) | ((with_reducible refine SemWp.id ?_); first | refine sem_seq ?_ | refine sem_region rfl ?_ | refine sem_cond rfl ?_ | refine sem_block ?_ | refine sem_exit ?_) | ((with_reducible refine qThen.id ?_); first | refine qThen.go ?_)
  refine sem_loop cx (ι := Nat) (fun i => i ≤ K + 1) (fun i => [(5, .sure, ii (1 + K)), (6, .sure, ss A), (8, .sure, ss ⟨#[112,114,111,99,32,109,32,40,32,41,32,123,32,120,32,61,32]⟩), (15, .sure, ii 5), (16, .sure, ii (17 + 50 * (1 + (A.size : Int)) + 1)), (17, .sure, ss (rp (rp head5S whileS (K + 1)) braceS i)), (19, .sure, ii i)]) (fun _ => []) (fun i => K + 1 - i) 0 (Nat.zero_le _) (by repeat' first | exact Sub.nil _ | refine Sub.auto ?_) (Subp.take (t := ?_) ?_) ?_
  rotate_left
  (repeat first | exact HTake.nil | (apply HTake.cons; focus (repeat first | exact HPick.hit | apply HPick.miss)))
  intro i i1
  by_cases hi : i < K + 1
  · have z4 := rp_le (rp head5S whileS (K + 1)) braceS i (by omega)
    repeat' first | refine Ops.tag rfl ?_ | (refine OpsT.go ?_; (conv => arg 7; whnf)) | ((with_reducible refine Stp.isSum ?_); refine Stp.sum ?_) | ((with_reducible refine Stp.isDec ?_); first | refine Stp.decT ?_) | refine Stp.pure rfl ?_ | refine Ops.nil ?_ | ((with_reducible refine Side.id ?_); first | refine Side.auto ?_) | ((with_reducible refine Br.id ?_); first | (with_reducible first | refine br_true rfl ?_)) | ((with_reducible refine SemWp.id ?_); first | refine sem_seq ?_ | refine sem_region rfl ?_ | refine sem_cond rfl ?_ | refine sem_block ?_ | refine sem_skip ?_) | ((with_reducible refine qThen.id ?_); first | refine qThen.go ?_) | ((with_reducible refine hinBlock.id ?_); first | refine hinBlock.go ?_) | ((with_reducible refine hround.id ?_); first | refine hround.go ?_) | refine Stp.valS ?_
    refine Fin.mk ⟨i + 1, by omega, by omega, by repeat' first | exact Sub.nil _ | refine Sub.auto ?_ rfl (by first | rfl | assumption | omega | exact congrArg (fun x => HV.v (Value.string x)) (rp_step _ _ _)), Subp.take (t := ?_) ?_⟩
    rotate_left
    (repeat first | exact HTake.nil | (apply HTake.cons; focus (repeat first | exact HPick.hit | apply HPick.miss)))
  have hik : i = K + 1 := by omega
  subst hik
  clear hi i1
  have z4 := rp_le (rp head5S whileS (K + 1)) braceS (K + 1) (by omega)
  repeat' first | refine Ops.tag rfl ?_ | ((with_reducible first | refine OpsT.yes ?_); (conv => arg 7; whnf)) | (refine OpsT.go ?_; (conv => arg 7; whnf)) | (with_reducible first | refine Stp.andT ?_ | refine Stp.andT2 ?_) | ((with_reducible refine Stp.isSum ?_); refine Stp.sum ?_) | ((with_reducible refine Stp.isDec ?_); first | refine Stp.decF ?_) | ((with_reducible refine Stp.isEq ?_); first | refine Stp.eqT ?_) | refine Stp.pure rfl ?_ | ((with_reducible refine PutK.isSet ?_); refine PutK.set (by repeat first | exact HsetIs.hit) ?_) | refine PutK.mk' rfl ?_ | refine Ops.nil ?_ | ((with_reducible refine Look.id ?_); refine Look.auto ?_ (by repeat first | exact HGet.hit); try (conv => arg 7; whnf)) | ((with_reducible refine Side.id ?_); first | refine Side.auto ?_) | ((with_reducible refine Br.id ?_); first | (with_reducible first | refine br_false rfl ?_)) | ((with_reducible refine SemWp.id ?_); first | refine sem_seq ?_ | refine sem_region rfl ?_ | refine sem_cond rfl ?_ | refine sem_exit ?_ | refine sem_ret ?_ | refine sem_skip ?_) | ((with_reducible refine qThen.id ?_); first | refine qThen.go ?_) | refine Stp.valS ?_ | refine Stp.valSC ?_ | refine Stp.look ?_ | refine Stp.call ?_ | refine Stp.callC ?_ | refine Stp.eff ?_ | ((with_reducible refine CallWp.id ?_); first | refine Pur.call (P2) ?_ | refine Pur.call (Num_spec _) ?_) | ((with_reducible refine CallC.id ?_); first | (refine Pur.askC (awake_spec) ?_ ?_; focus (intro h; first | exact rfl))) | (refine newN (fun r hr => ?_); simp only [keys, List.nil_append, List.cons_append, List.map_cons, List.map_nil, List.mem_cons, List.not_mem_nil, not_or, or_false, not_false_eq_true] at hr; (repeat (obtain ⟨_, hr⟩ := hr))) | ((with_reducible refine BodyR.id ?_); first | refine BodyR.ret ?_) | ((with_reducible refine ResG.id ?_); first | refine ResG.tmp rfl ?_ | refine ResG.nil ?_) | ((with_reducible refine Upd.id ?_); first | (refine Upd.lit rfl ?_; (conv => whnf)))
  first | exact Fin.mk rfl | (have e0 : (⟨#[112,114,111,99,32,109,32,40,32,41,32,123,32,120,32,61,32]⟩ : ByteArray).size = 17 := rfl; exact Fin.mk (by rw [e0]; simp [tupOf, bb]))
set_option maxHeartbeats 8000000 in
theorem pd2 (n c : Int) (hn : 0 ≤ n ∧ n ≤ 255) (K v : Nat) (hK : K < 60) (hv : v < 4) (tk0 : n.tmod 60 = K) (tm : c.tmod 4 = v) (h2 : ¬ v < 2) (h5 : K < 50) (A B : ByteArray) (za : A.size ≤ 3) (zb : B.size ≤ 1) (q1 q2 : List PD)
    (P1 : Pur cx 8 [ss (rp (rp ⟨#[112,114,111,99,32,109,32,40,32,41,32,123,32,97,115,115,117,109,101,32]⟩ (sp ++ A) (K + 1) ++ sp ++ ⟨#[116,114,117,101]⟩) (sp ++ B) (K + 1) ++ endS)] (.tup [.agg [LPDs q1], ii 0, ii 0])) (P2 : Pur cx 8 [ss (rp (rp head5S whileS (K + 1)) braceS (K + 1) ++ braceS)] (.tup [.agg [LPDs q2], ii 0, ii 0]))
    (ga : [HV.v (.string ⟨#[40]⟩), .v (.string ⟨#[45]⟩), .v (.string ⟨#[110, 111, 116]⟩), .v (.string ⟨#[91]⟩)].getD ((v : Nat) : Int).toNat default = ss A)
    (gb : [HV.v (.string ⟨#[41]⟩), .v (.string ⟨#[]⟩), .v (.string ⟨#[]⟩), .v (.string ⟨#[93]⟩)].getD ((v : Nat) : Int).toNat default = ss B) : Pur cx 5 [.v (.int .u8 n), .v (.int .u8 c)] (bb true) := by
  have s1 : (⟨#[112,114,111,99,32,109,32,40,32,41,32,123,32,97,115,115,117,109,101,32]⟩ : ByteArray).size ≤ 21 := by decide
  have s2 : (⟨#[116,114,117,101]⟩ : ByteArray).size ≤ 4 := by decide
  have s3 : sp.size = 1 := rfl
  have s4 : head5S.size = 12 := rfl
  have s5 : whileS.size = 10 := rfl
  have s6 : braceS.size = 2 := rfl
  have s7 : (⟨#[32]⟩ : ByteArray).size = 1 := rfl
  have s8 : (⟨#[32,59,32,125]⟩ : ByteArray).size = 4 := rfl
  have s9 : (⟨#[32,119,104,105,108,101,32,42,32,123]⟩ : ByteArray).size = 10 := rfl
  have s10 : (⟨#[32,125]⟩ : ByteArray).size = 2 := rfl
  refine Pur.of (sem_calls' cx (fn := Tryd.f5) rfl rfl rfl rfl ?_)
  repeat' first | refine Ops.tag rfl ?_ | (refine OpsT.go ?_; (conv => arg 7; whnf)) | ((with_reducible refine Stp.isSum ?_); refine Stp.sum ?_) | ((with_reducible refine Stp.isDec ?_); first | refine Stp.decT ?_) | refine Stp.pure rfl ?_ | refine Ops.nil ?_ | ((with_reducible refine Side.id ?_); first | refine Side.auto ?_) | ((with_reducible refine Br.id ?_); first | (with_reducible first | refine br_true rfl ?_)) | ((with_reducible refine SemWp.id ?_); first | refine sem_seq ?_ | refine sem_region rfl ?_ | refine sem_cond rfl ?_ | refine sem_block ?_) | ((with_reducible refine qThen.id ?_); first | refine qThen.go ?_) | refine Stp.valS ?_ | rw [tk0] | rw [tm] | rw [ga] | rw [gb]
  refine sem_loop cx (ι := Nat) (fun i => i ≤ K + 1) (fun i => [(5, .sure, ii (1 + K)), (6, .sure, ss A), (7, .sure, ss B), (8, .sure, ss ⟨#[112,114,111,99,32,109,32,40,32,41,32,123,32,97,115,115,117,109,101,32]⟩), (9, .sure, ss ⟨#[32,59,32,125]⟩), (10, .sure, ss ⟨#[116,114,117,101]⟩), (11, .sure, ss (rp ⟨#[112,114,111,99,32,109,32,40,32,41,32,123,32,97,115,115,117,109,101,32]⟩ (sp ++ A) i)), (12, .sure, ii i)]) (fun _ => []) (fun i => K + 1 - i) 0 (Nat.zero_le _) (by repeat' first | exact Sub.nil _ | refine Sub.auto ?_) (Subp.take (t := ?_) ?_) ?_
  rotate_left
  (repeat first | exact HTake.nil | (apply HTake.cons; focus (repeat first | exact HPick.hit | apply HPick.miss)))
  intro i i1
  by_cases hi : i < K + 1
  · have z1 := rp_le ⟨#[112,114,111,99,32,109,32,40,32,41,32,123,32,97,115,115,117,109,101,32]⟩ (sp ++ A) i (by omega); simp only [ByteArray.size_append] at z1
    repeat' first | refine Ops.tag rfl ?_ | (refine OpsT.go ?_; (conv => arg 7; whnf)) | ((with_reducible refine Stp.isSum ?_); refine Stp.sum ?_) | ((with_reducible refine Stp.isDec ?_); first | refine Stp.decT ?_) | refine Stp.pure rfl ?_ | refine Ops.nil ?_ | ((with_reducible refine Side.id ?_); first | (refine Side.mk (by simp only [ByteArray.size_append]; omega) ?_) | refine Side.auto ?_) | ((with_reducible refine Br.id ?_); first | (with_reducible first | refine br_true rfl ?_)) | ((with_reducible refine SemWp.id ?_); first | refine sem_seq ?_ | refine sem_region rfl ?_ | refine sem_cond rfl ?_ | refine sem_block ?_ | refine sem_skip ?_) | ((with_reducible refine qThen.id ?_); first | refine qThen.go ?_) | ((with_reducible refine hinBlock.id ?_); first | refine hinBlock.go ?_) | ((with_reducible refine hround.id ?_); first | refine hround.go ?_) | refine Stp.valS ?_
    refine Fin.mk ⟨i + 1, by omega, by omega, by repeat' first | exact Sub.nil _ | refine Sub.auto ?_ rfl (by first | rfl | assumption | omega | exact congrArg (fun x => HV.v (Value.string x)) (rp_step _ _ _)), Subp.take (t := ?_) ?_⟩
    rotate_left
    (repeat first | exact HTake.nil | (apply HTake.cons; focus (repeat first | exact HPick.hit | apply HPick.miss)))
  have hik : i = K + 1 := by omega
  subst hik
  clear hi i1
  have z1 := rp_le ⟨#[112,114,111,99,32,109,32,40,32,41,32,123,32,97,115,115,117,109,101,32]⟩ (sp ++ A) (K + 1) (by omega); simp only [ByteArray.size_append] at z1
  repeat' first | refine Ops.tag rfl ?_ | (refine OpsT.go ?_; (conv => arg 7; whnf)) | ((with_reducible refine Stp.isDec ?_); first | refine Stp.decF ?_) | refine Stp.pure rfl ?_ | refine Ops.nil ?_ | ((with_reducible refine Side.id ?_); first | (refine Side.mk (by simp only [ByteArray.size_append]; omega) ?_) | refine Side.auto ?_) | ((with_reducible refine Br.id ?_); first | (with_reducible first | refine br_false rfl ?_)) | ((with_reducible refine SemWp.id ?_); first | refine sem_seq ?_ | refine sem_region rfl ?_ | refine sem_cond rfl ?_ | refine sem_block ?_ | refine sem_exit ?_) | ((with_reducible refine qThen.id ?_); first | refine qThen.go ?_) | refine Stp.valS ?_
  refine sem_loop cx (ι := Nat) (fun i => i ≤ K + 1) (fun i => [(5, .sure, ii (1 + K)), (6, .sure, ss A), (7, .sure, ss B), (8, .sure, ss ⟨#[112,114,111,99,32,109,32,40,32,41,32,123,32,97,115,115,117,109,101,32]⟩), (9, .sure, ss ⟨#[32,59,32,125]⟩), (10, .sure, ss ⟨#[116,114,117,101]⟩), (11, .sure, ss (rp (rp ⟨#[112,114,111,99,32,109,32,40,32,41,32,123,32,97,115,115,117,109,101,32]⟩ (sp ++ A) (K + 1) ++ ⟨#[32]⟩ ++ ⟨#[116,114,117,101]⟩) (sp ++ B) i)), (13, .sure, ii i)]) (fun _ => []) (fun i => K + 1 - i) 0 (Nat.zero_le _) (by repeat' first | exact Sub.nil _ | refine Sub.auto ?_) (Subp.take (t := ?_) ?_) ?_
  rotate_left
  (repeat first | exact HTake.nil | (apply HTake.cons; focus (repeat first | exact HPick.hit | apply HPick.miss)))
  intro i i1
  by_cases hi : i < K + 1
  · have z2 := rp_le (rp ⟨#[112,114,111,99,32,109,32,40,32,41,32,123,32,97,115,115,117,109,101,32]⟩ (sp ++ A) (K + 1) ++ ⟨#[32]⟩ ++ ⟨#[116,114,117,101]⟩) (sp ++ B) i (by omega); simp only [ByteArray.size_append] at z2
    repeat' first | refine Ops.tag rfl ?_ | (refine OpsT.go ?_; (conv => arg 7; whnf)) | ((with_reducible refine Stp.isSum ?_); refine Stp.sum ?_) | ((with_reducible refine Stp.isDec ?_); first | refine Stp.decT ?_) | refine Stp.pure rfl ?_ | refine Ops.nil ?_ | ((with_reducible refine Side.id ?_); first | (refine Side.mk (by simp only [ByteArray.size_append]; omega) ?_) | refine Side.auto ?_) | ((with_reducible refine Br.id ?_); first | (with_reducible first | refine br_true rfl ?_)) | ((with_reducible refine SemWp.id ?_); first | refine sem_seq ?_ | refine sem_region rfl ?_ | refine sem_cond rfl ?_ | refine sem_block ?_ | refine sem_skip ?_) | ((with_reducible refine qThen.id ?_); first | refine qThen.go ?_) | ((with_reducible refine hinBlock.id ?_); first | refine hinBlock.go ?_) | ((with_reducible refine hround.id ?_); first | refine hround.go ?_) | refine Stp.valS ?_
    refine Fin.mk ⟨i + 1, by omega, by omega, by repeat' first | exact Sub.nil _ | refine Sub.auto ?_ rfl (by first | rfl | assumption | omega | exact congrArg (fun x => HV.v (Value.string x)) (rp_step _ _ _)), Subp.take (t := ?_) ?_⟩
    rotate_left
    (repeat first | exact HTake.nil | (apply HTake.cons; focus (repeat first | exact HPick.hit | apply HPick.miss)))
  have hik : i = K + 1 := by omega
  subst hik
  clear hi i1
  have z2 := rp_le (rp ⟨#[112,114,111,99,32,109,32,40,32,41,32,123,32,97,115,115,117,109,101,32]⟩ (sp ++ A) (K + 1) ++ ⟨#[32]⟩ ++ ⟨#[116,114,117,101]⟩) (sp ++ B) (K + 1) (by omega); simp only [ByteArray.size_append] at z2
  repeat' first | refine Ops.tag rfl ?_ | (refine OpsT.go ?_; (conv => arg 7; whnf)) | ((with_reducible refine Stp.isDec ?_); first | refine Stp.decF ?_) | refine Stp.pure rfl ?_ | ((with_reducible refine PutK.isSet ?_); refine PutK.set (by repeat first | exact HsetIs.hit) ?_) | refine PutK.mk' rfl ?_ | refine Ops.nil ?_ | ((with_reducible refine Look.id ?_); refine Look.auto ?_ (by repeat first | exact HGet.hit); try (conv => arg 7; whnf)) | ((with_reducible refine Side.id ?_); first | refine Side.auto ?_) | ((with_reducible refine Br.id ?_); first | (with_reducible first | refine br_false rfl ?_)) | ((with_reducible refine SemWp.id ?_); first | refine sem_seq ?_ | refine sem_region rfl ?_ | refine sem_cond rfl ?_ | refine sem_block ?_ | refine sem_exit ?_) | ((with_reducible refine qThen.id ?_); first | refine qThen.go ?_) | refine Stp.valS ?_ | refine Stp.look ?_ | refine Stp.call ?_ | refine Stp.eff ?_ | ((with_reducible refine CallWp.id ?_); first | refine Pur.call (P1) ?_) | (refine newN (fun r hr => ?_); simp only [keys, List.nil_append, List.cons_append, List.map_cons, List.map_nil, List.mem_cons, List.not_mem_nil, not_or, or_false, not_false_eq_true] at hr; (repeat (obtain ⟨_, hr⟩ := hr))) | ((with_reducible refine Upd.id ?_); first | (refine Upd.lit rfl ?_; (conv => whnf)))
  refine sem_loop cx (ι := Nat) (fun i => i ≤ K + 1) (fun i => [(5, .sure, ii (1 + K)), (6, .sure, ss A), (8, .sure, ss ⟨#[112,114,111,99,32,109,32,40,32,41,32,123,32,97,115,115,117,109,101,32]⟩), (15, .sure, ii 0), (16, .sure, ii 0), (17, .sure, ss (rp head5S whileS i)), (18, .sure, ii i)]) (fun _ => []) (fun i => K + 1 - i) 0 (Nat.zero_le _) (by repeat' first | exact Sub.nil _ | refine Sub.auto ?_) (Subp.take (t := ?_) ?_) ?_
  rotate_left
  (repeat first | exact HTake.nil | (apply HTake.cons; focus (repeat first | exact HPick.hit | apply HPick.miss)))
  intro i i1
  by_cases hi : i < K + 1
  · have z3 := rp_le head5S whileS i (by omega)
    repeat' first | refine Ops.tag rfl ?_ | (refine OpsT.go ?_; (conv => arg 7; whnf)) | ((with_reducible refine Stp.isSum ?_); refine Stp.sum ?_) | ((with_reducible refine Stp.isDec ?_); first | refine Stp.decT ?_) | refine Stp.pure rfl ?_ | refine Ops.nil ?_ | ((with_reducible refine Side.id ?_); first | refine Side.auto ?_) | ((with_reducible refine Br.id ?_); first | (with_reducible first | refine br_true rfl ?_)) | ((with_reducible refine SemWp.id ?_); first | refine sem_seq ?_ | refine sem_region rfl ?_ | refine sem_cond rfl ?_ | refine sem_block ?_ | refine sem_skip ?_) | ((with_reducible refine qThen.id ?_); first | refine qThen.go ?_) | ((with_reducible refine hinBlock.id ?_); first | refine hinBlock.go ?_) | ((with_reducible refine hround.id ?_); first | refine hround.go ?_) | refine Stp.valS ?_
    refine Fin.mk ⟨i + 1, by omega, by omega, by repeat' first | exact Sub.nil _ | refine Sub.auto ?_ rfl (by first | rfl | assumption | omega | exact congrArg (fun x => HV.v (Value.string x)) (rp_step _ _ _)), Subp.take (t := ?_) ?_⟩
    rotate_left
    (repeat first | exact HTake.nil | (apply HTake.cons; focus (repeat first | exact HPick.hit | apply HPick.miss)))
  have hik : i = K + 1 := by omega
  subst hik
  clear hi i1
  have z3 := rp_le head5S whileS (K + 1) (by omega)
  repeat' first | refine Ops.tag rfl ?_ | (refine OpsT.go ?_; (conv => arg 7; whnf)) | ((with_reducible refine Stp.isDec ?_); first | refine Stp.decF ?_) | refine Stp.pure rfl ?_ | refine Ops.nil ?_ | ((with_reducible refine Br.id ?_); first | (with_reducible first | refine br_false rfl ?_)) | ((with_reducible refine SemWp.id ?_); first | refine sem_seq ?_ | refine sem_region rfl ?_ | refine sem_cond rfl ?_ | refine sem_block ?_ | refine sem_exit ?_) | ((with_reducible refine qThen.id ?_); first | refine qThen.go ?_)
  refine sem_loop cx (ι := Nat) (fun i => i ≤ K + 1) (fun i => [(5, .sure, ii (1 + K)), (6, .sure, ss A), (8, .sure, ss ⟨#[112,114,111,99,32,109,32,40,32,41,32,123,32,97,115,115,117,109,101,32]⟩), (15, .sure, ii 0), (16, .sure, ii 0), (17, .sure, ss (rp (rp head5S whileS (K + 1)) braceS i)), (19, .sure, ii i)]) (fun _ => []) (fun i => K + 1 - i) 0 (Nat.zero_le _) (by repeat' first | exact Sub.nil _ | refine Sub.auto ?_) (Subp.take (t := ?_) ?_) ?_
  rotate_left
  (repeat first | exact HTake.nil | (apply HTake.cons; focus (repeat first | exact HPick.hit | apply HPick.miss)))
  intro i i1
  by_cases hi : i < K + 1
  · have z4 := rp_le (rp head5S whileS (K + 1)) braceS i (by omega)
    repeat' first | refine Ops.tag rfl ?_ | (refine OpsT.go ?_; (conv => arg 7; whnf)) | ((with_reducible refine Stp.isSum ?_); refine Stp.sum ?_) | ((with_reducible refine Stp.isDec ?_); first | refine Stp.decT ?_) | refine Stp.pure rfl ?_ | refine Ops.nil ?_ | ((with_reducible refine Side.id ?_); first | refine Side.auto ?_) | ((with_reducible refine Br.id ?_); first | (with_reducible first | refine br_true rfl ?_)) | ((with_reducible refine SemWp.id ?_); first | refine sem_seq ?_ | refine sem_region rfl ?_ | refine sem_cond rfl ?_ | refine sem_block ?_ | refine sem_skip ?_) | ((with_reducible refine qThen.id ?_); first | refine qThen.go ?_) | ((with_reducible refine hinBlock.id ?_); first | refine hinBlock.go ?_) | ((with_reducible refine hround.id ?_); first | refine hround.go ?_) | refine Stp.valS ?_
    refine Fin.mk ⟨i + 1, by omega, by omega, by repeat' first | exact Sub.nil _ | refine Sub.auto ?_ rfl (by first | rfl | assumption | omega | exact congrArg (fun x => HV.v (Value.string x)) (rp_step _ _ _)), Subp.take (t := ?_) ?_⟩
    rotate_left
    (repeat first | exact HTake.nil | (apply HTake.cons; focus (repeat first | exact HPick.hit | apply HPick.miss)))
  have hik : i = K + 1 := by omega
  subst hik
  clear hi i1
  have z4 := rp_le (rp head5S whileS (K + 1)) braceS (K + 1) (by omega)
  repeat' first | refine Ops.tag rfl ?_ | ((with_reducible first | refine OpsT.yes ?_); (conv => arg 7; whnf)) | (refine OpsT.go ?_; (conv => arg 7; whnf)) | (with_reducible first | refine Stp.andT ?_) | ((with_reducible refine Stp.isDec ?_); first | refine Stp.decT ?_ | refine Stp.decF ?_) | ((with_reducible refine Stp.isEq ?_); first | refine Stp.eqT ?_) | refine Stp.pure rfl ?_ | ((with_reducible refine PutK.isSet ?_); refine PutK.set (by repeat first | exact HsetIs.hit) ?_) | refine PutK.mk' rfl ?_ | refine Ops.nil ?_ | ((with_reducible refine Look.id ?_); refine Look.auto ?_ (by repeat first | exact HGet.hit); try (conv => arg 7; whnf)) | ((with_reducible refine Side.id ?_); first | refine Side.auto ?_) | ((with_reducible refine Br.id ?_); first | (with_reducible first | refine br_true rfl ?_ | refine br_false rfl ?_)) | ((with_reducible refine SemWp.id ?_); first | refine sem_seq ?_ | refine sem_region rfl ?_ | refine sem_cond rfl ?_ | refine sem_exit ?_ | refine sem_ret ?_) | ((with_reducible refine qThen.id ?_); first | refine qThen.go ?_ | refine qThen.ret ?_) | refine Stp.valS ?_ | refine Stp.look ?_ | refine Stp.call ?_ | refine Stp.eff ?_ | ((with_reducible refine CallWp.id ?_); first | refine Pur.call (P2) ?_ | refine Pur.call (Num_spec _) ?_ | refine Pur.call (awake_spec) ?_) | (refine newN (fun r hr => ?_); simp only [keys, List.nil_append, List.cons_append, List.map_cons, List.map_nil, List.mem_cons, List.not_mem_nil, not_or, or_false, not_false_eq_true] at hr; (repeat (obtain ⟨_, hr⟩ := hr))) | ((with_reducible refine BodyR.id ?_); first | refine BodyR.ret ?_) | ((with_reducible refine ResG.id ?_); first | refine ResG.tmp rfl ?_ | refine ResG.nil ?_) | ((with_reducible refine Upd.id ?_); first | (refine Upd.lit rfl ?_; (conv => whnf)))
  first | exact Fin.mk rfl | (have e0 : (⟨#[112,114,111,99,32,109,32,40,32,41,32,123,32,97,115,115,117,109,101,32]⟩ : ByteArray).size = 20 := rfl; exact Fin.mk (by rw [e0]; simp [tupOf, bb]))
set_option maxHeartbeats 8000000 in
theorem pd3 (n c : Int) (hn : 0 ≤ n ∧ n ≤ 255) (K v : Nat) (hK : K < 60) (hv : v < 4) (tk0 : n.tmod 60 = K) (tm : c.tmod 4 = v) (h2 : ¬ v < 2) (h5 : ¬ K < 50) (A B : ByteArray) (za : A.size ≤ 3) (zb : B.size ≤ 1) (q1 q2 : List PD)
    (P1 : Pur cx 8 [ss (rp (rp ⟨#[112,114,111,99,32,109,32,40,32,41,32,123,32,97,115,115,117,109,101,32]⟩ (sp ++ A) (K + 1) ++ sp ++ ⟨#[116,114,117,101]⟩) (sp ++ B) (K + 1) ++ endS)] (.tup [.agg [LPDs q1], ii 5, ii (20 + 50 * (1 + (A.size : Int)) + 1)])) (P2 : Pur cx 8 [ss (rp (rp head5S whileS (K + 1)) braceS (K + 1) ++ braceS)] (.tup [.agg [LPDs q2], ii 5, ii 521]))
    (ga : [HV.v (.string ⟨#[40]⟩), .v (.string ⟨#[45]⟩), .v (.string ⟨#[110, 111, 116]⟩), .v (.string ⟨#[91]⟩)].getD ((v : Nat) : Int).toNat default = ss A)
    (gb : [HV.v (.string ⟨#[41]⟩), .v (.string ⟨#[]⟩), .v (.string ⟨#[]⟩), .v (.string ⟨#[93]⟩)].getD ((v : Nat) : Int).toNat default = ss B) : Pur cx 5 [.v (.int .u8 n), .v (.int .u8 c)] (bb true) := by
  have s1 : (⟨#[112,114,111,99,32,109,32,40,32,41,32,123,32,97,115,115,117,109,101,32]⟩ : ByteArray).size ≤ 21 := by decide
  have s2 : (⟨#[116,114,117,101]⟩ : ByteArray).size ≤ 4 := by decide
  have s3 : sp.size = 1 := rfl
  have s4 : head5S.size = 12 := rfl
  have s5 : whileS.size = 10 := rfl
  have s6 : braceS.size = 2 := rfl
  have s7 : (⟨#[32]⟩ : ByteArray).size = 1 := rfl
  have s8 : (⟨#[32,59,32,125]⟩ : ByteArray).size = 4 := rfl
  have s9 : (⟨#[32,119,104,105,108,101,32,42,32,123]⟩ : ByteArray).size = 10 := rfl
  have s10 : (⟨#[32,125]⟩ : ByteArray).size = 2 := rfl
  refine Pur.of (sem_calls' cx (fn := Tryd.f5) rfl rfl rfl rfl ?_)
  repeat' first | refine Ops.tag rfl ?_ | (refine OpsT.go ?_; (conv => arg 7; whnf)) | ((with_reducible refine Stp.isSum ?_); refine Stp.sum ?_) | ((with_reducible refine Stp.isDec ?_); first | refine Stp.decT ?_) | refine Stp.pure rfl ?_ | refine Ops.nil ?_ | ((with_reducible refine Side.id ?_); first | refine Side.auto ?_) | ((with_reducible refine Br.id ?_); first | (with_reducible first | refine br_true rfl ?_)) | ((with_reducible refine SemWp.id ?_); first | refine sem_seq ?_ | refine sem_region rfl ?_ | refine sem_cond rfl ?_ | refine sem_block ?_) | ((with_reducible refine qThen.id ?_); first | refine qThen.go ?_) | refine Stp.valS ?_ | rw [tk0] | rw [tm] | rw [ga] | rw [gb]
  refine sem_loop cx (ι := Nat) (fun i => i ≤ K + 1) (fun i => [(5, .sure, ii (1 + K)), (6, .sure, ss A), (7, .sure, ss B), (8, .sure, ss ⟨#[112,114,111,99,32,109,32,40,32,41,32,123,32,97,115,115,117,109,101,32]⟩), (9, .sure, ss ⟨#[32,59,32,125]⟩), (10, .sure, ss ⟨#[116,114,117,101]⟩), (11, .sure, ss (rp ⟨#[112,114,111,99,32,109,32,40,32,41,32,123,32,97,115,115,117,109,101,32]⟩ (sp ++ A) i)), (12, .sure, ii i)]) (fun _ => []) (fun i => K + 1 - i) 0 (Nat.zero_le _) (by repeat' first | exact Sub.nil _ | refine Sub.auto ?_) (Subp.take (t := ?_) ?_) ?_
  rotate_left
  (repeat first | exact HTake.nil | (apply HTake.cons; focus (repeat first | exact HPick.hit | apply HPick.miss)))
  intro i i1
  by_cases hi : i < K + 1
  · have z1 := rp_le ⟨#[112,114,111,99,32,109,32,40,32,41,32,123,32,97,115,115,117,109,101,32]⟩ (sp ++ A) i (by omega); simp only [ByteArray.size_append] at z1
    repeat' first | refine Ops.tag rfl ?_ | (refine OpsT.go ?_; (conv => arg 7; whnf)) | ((with_reducible refine Stp.isSum ?_); refine Stp.sum ?_) | ((with_reducible refine Stp.isDec ?_); first | refine Stp.decT ?_) | refine Stp.pure rfl ?_ | refine Ops.nil ?_ | ((with_reducible refine Side.id ?_); first | (refine Side.mk (by simp only [ByteArray.size_append]; omega) ?_) | refine Side.auto ?_) | ((with_reducible refine Br.id ?_); first | (with_reducible first | refine br_true rfl ?_)) | ((with_reducible refine SemWp.id ?_); first | refine sem_seq ?_ | refine sem_region rfl ?_ | refine sem_cond rfl ?_ | refine sem_block ?_ | refine sem_skip ?_) | ((with_reducible refine qThen.id ?_); first | refine qThen.go ?_) | ((with_reducible refine hinBlock.id ?_); first | refine hinBlock.go ?_) | ((with_reducible refine hround.id ?_); first | refine hround.go ?_) | refine Stp.valS ?_
    refine Fin.mk ⟨i + 1, by omega, by omega, by repeat' first | exact Sub.nil _ | refine Sub.auto ?_ rfl (by first | rfl | assumption | omega | exact congrArg (fun x => HV.v (Value.string x)) (rp_step _ _ _)), Subp.take (t := ?_) ?_⟩
    rotate_left
    (repeat first | exact HTake.nil | (apply HTake.cons; focus (repeat first | exact HPick.hit | apply HPick.miss)))
  have hik : i = K + 1 := by omega
  subst hik
  clear hi i1
  have z1 := rp_le ⟨#[112,114,111,99,32,109,32,40,32,41,32,123,32,97,115,115,117,109,101,32]⟩ (sp ++ A) (K + 1) (by omega); simp only [ByteArray.size_append] at z1
  repeat' first | refine Ops.tag rfl ?_ | (refine OpsT.go ?_; (conv => arg 7; whnf)) | ((with_reducible refine Stp.isDec ?_); first | refine Stp.decF ?_) | refine Stp.pure rfl ?_ | refine Ops.nil ?_ | ((with_reducible refine Side.id ?_); first | (refine Side.mk (by simp only [ByteArray.size_append]; omega) ?_) | refine Side.auto ?_) | ((with_reducible refine Br.id ?_); first | (with_reducible first | refine br_false rfl ?_)) | ((with_reducible refine SemWp.id ?_); first | refine sem_seq ?_ | refine sem_region rfl ?_ | refine sem_cond rfl ?_ | refine sem_block ?_ | refine sem_exit ?_) | ((with_reducible refine qThen.id ?_); first | refine qThen.go ?_) | refine Stp.valS ?_
  refine sem_loop cx (ι := Nat) (fun i => i ≤ K + 1) (fun i => [(5, .sure, ii (1 + K)), (6, .sure, ss A), (7, .sure, ss B), (8, .sure, ss ⟨#[112,114,111,99,32,109,32,40,32,41,32,123,32,97,115,115,117,109,101,32]⟩), (9, .sure, ss ⟨#[32,59,32,125]⟩), (10, .sure, ss ⟨#[116,114,117,101]⟩), (11, .sure, ss (rp (rp ⟨#[112,114,111,99,32,109,32,40,32,41,32,123,32,97,115,115,117,109,101,32]⟩ (sp ++ A) (K + 1) ++ ⟨#[32]⟩ ++ ⟨#[116,114,117,101]⟩) (sp ++ B) i)), (13, .sure, ii i)]) (fun _ => []) (fun i => K + 1 - i) 0 (Nat.zero_le _) (by repeat' first | exact Sub.nil _ | refine Sub.auto ?_) (Subp.take (t := ?_) ?_) ?_
  rotate_left
  (repeat first | exact HTake.nil | (apply HTake.cons; focus (repeat first | exact HPick.hit | apply HPick.miss)))
  intro i i1
  by_cases hi : i < K + 1
  · have z2 := rp_le (rp ⟨#[112,114,111,99,32,109,32,40,32,41,32,123,32,97,115,115,117,109,101,32]⟩ (sp ++ A) (K + 1) ++ ⟨#[32]⟩ ++ ⟨#[116,114,117,101]⟩) (sp ++ B) i (by omega); simp only [ByteArray.size_append] at z2
    repeat' first | refine Ops.tag rfl ?_ | (refine OpsT.go ?_; (conv => arg 7; whnf)) | ((with_reducible refine Stp.isSum ?_); refine Stp.sum ?_) | ((with_reducible refine Stp.isDec ?_); first | refine Stp.decT ?_) | refine Stp.pure rfl ?_ | refine Ops.nil ?_ | ((with_reducible refine Side.id ?_); first | (refine Side.mk (by simp only [ByteArray.size_append]; omega) ?_) | refine Side.auto ?_) | ((with_reducible refine Br.id ?_); first | (with_reducible first | refine br_true rfl ?_)) | ((with_reducible refine SemWp.id ?_); first | refine sem_seq ?_ | refine sem_region rfl ?_ | refine sem_cond rfl ?_ | refine sem_block ?_ | refine sem_skip ?_) | ((with_reducible refine qThen.id ?_); first | refine qThen.go ?_) | ((with_reducible refine hinBlock.id ?_); first | refine hinBlock.go ?_) | ((with_reducible refine hround.id ?_); first | refine hround.go ?_) | refine Stp.valS ?_
    refine Fin.mk ⟨i + 1, by omega, by omega, by repeat' first | exact Sub.nil _ | refine Sub.auto ?_ rfl (by first | rfl | assumption | omega | exact congrArg (fun x => HV.v (Value.string x)) (rp_step _ _ _)), Subp.take (t := ?_) ?_⟩
    rotate_left
    (repeat first | exact HTake.nil | (apply HTake.cons; focus (repeat first | exact HPick.hit | apply HPick.miss)))
  have hik : i = K + 1 := by omega
  subst hik
  clear hi i1
  have z2 := rp_le (rp ⟨#[112,114,111,99,32,109,32,40,32,41,32,123,32,97,115,115,117,109,101,32]⟩ (sp ++ A) (K + 1) ++ ⟨#[32]⟩ ++ ⟨#[116,114,117,101]⟩) (sp ++ B) (K + 1) (by omega); simp only [ByteArray.size_append] at z2
  repeat' first | refine Ops.tag rfl ?_ | (refine OpsT.go ?_; (conv => arg 7; whnf)) | ((with_reducible refine Stp.isDec ?_); first | refine Stp.decF ?_) | refine Stp.pure rfl ?_ | ((with_reducible refine PutK.isSet ?_); refine PutK.set (by repeat first | exact HsetIs.hit) ?_) | refine PutK.mk' rfl ?_ | refine Ops.nil ?_ | ((with_reducible refine Look.id ?_); refine Look.auto ?_ (by repeat first | exact HGet.hit); try (conv => arg 7; whnf)) | ((with_reducible refine Side.id ?_); first | refine Side.auto ?_) | ((with_reducible refine Br.id ?_); first | (with_reducible first | refine br_false rfl ?_)) | ((with_reducible refine SemWp.id ?_); first | refine sem_seq ?_ | refine sem_region rfl ?_ | refine sem_cond rfl ?_ | refine sem_block ?_ | refine sem_exit ?_) | ((with_reducible refine qThen.id ?_); first | refine qThen.go ?_) | refine Stp.valS ?_ | refine Stp.look ?_ | refine Stp.call ?_ | refine Stp.eff ?_ | ((with_reducible refine CallWp.id ?_); first | refine Pur.call (P1) ?_) | (refine newN (fun r hr => ?_); simp only [keys, List.nil_append, List.cons_append, List.map_cons, List.map_nil, List.mem_cons, List.not_mem_nil, not_or, or_false, not_false_eq_true] at hr; (repeat (obtain ⟨_, hr⟩ := hr))) | ((with_reducible refine Upd.id ?_); first | (refine Upd.lit rfl ?_; (conv => whnf)))
  refine sem_loop cx (ι := Nat) (fun i => i ≤ K + 1) (fun i => [(5, .sure, ii (1 + K)), (6, .sure, ss A), (8, .sure, ss ⟨#[112,114,111,99,32,109,32,40,32,41,32,123,32,97,115,115,117,109,101,32]⟩), (15, .sure, ii 5), (16, .sure, ii (20 + 50 * (1 + (A.size : Int)) + 1)), (17, .sure, ss (rp head5S whileS i)), (18, .sure, ii i)]) (fun _ => []) (fun i => K + 1 - i) 0 (Nat.zero_le _) (by repeat' first | exact Sub.nil _ | refine Sub.auto ?_) (Subp.take (t := ?_) ?_) ?_
  rotate_left
  (repeat first | exact HTake.nil | (apply HTake.cons; focus (repeat first | exact HPick.hit | apply HPick.miss)))
  intro i i1
  by_cases hi : i < K + 1
  · have z3 := rp_le head5S whileS i (by omega)
    repeat' first | refine Ops.tag rfl ?_ | (refine OpsT.go ?_; (conv => arg 7; whnf)) | ((with_reducible refine Stp.isSum ?_); refine Stp.sum ?_) | ((with_reducible refine Stp.isDec ?_); first | refine Stp.decT ?_) | refine Stp.pure rfl ?_ | refine Ops.nil ?_ | ((with_reducible refine Side.id ?_); first | refine Side.auto ?_) | ((with_reducible refine Br.id ?_); first | (with_reducible first | refine br_true rfl ?_)) | ((with_reducible refine SemWp.id ?_); first | refine sem_seq ?_ | refine sem_region rfl ?_ | refine sem_cond rfl ?_ | refine sem_block ?_ | refine sem_skip ?_) | ((with_reducible refine qThen.id ?_); first | refine qThen.go ?_) | ((with_reducible refine hinBlock.id ?_); first | refine hinBlock.go ?_) | ((with_reducible refine hround.id ?_); first | refine hround.go ?_) | refine Stp.valS ?_
    refine Fin.mk ⟨i + 1, by omega, by omega, by repeat' first | exact Sub.nil _ | refine Sub.auto ?_ rfl (by first | rfl | assumption | omega | exact congrArg (fun x => HV.v (Value.string x)) (rp_step _ _ _)), Subp.take (t := ?_) ?_⟩
    rotate_left
    (repeat first | exact HTake.nil | (apply HTake.cons; focus (repeat first | exact HPick.hit | apply HPick.miss)))
  have hik : i = K + 1 := by omega
  subst hik
  clear hi i1
  have z3 := rp_le head5S whileS (K + 1) (by omega)
  repeat' first | refine Ops.tag rfl ?_ | (refine OpsT.go ?_; (conv => arg 7; whnf)) | ((with_reducible refine Stp.isDec ?_); first | refine Stp.decF ?_) | refine Stp.pure rfl ?_ | refine Ops.nil ?_ | ((with_reducible refine Br.id ?_); first | (with_reducible first | refine br_false rfl ?_)) | ((with_reducible refine SemWp.id ?_); first | refine sem_seq ?_ | refine sem_region rfl ?_ | refine sem_cond rfl ?_ | refine sem_block ?_ | refine sem_exit ?_) | ((with_reducible refine qThen.id ?_); first | refine qThen.go ?_)
  refine sem_loop cx (ι := Nat) (fun i => i ≤ K + 1) (fun i => [(5, .sure, ii (1 + K)), (6, .sure, ss A), (8, .sure, ss ⟨#[112,114,111,99,32,109,32,40,32,41,32,123,32,97,115,115,117,109,101,32]⟩), (15, .sure, ii 5), (16, .sure, ii (20 + 50 * (1 + (A.size : Int)) + 1)), (17, .sure, ss (rp (rp head5S whileS (K + 1)) braceS i)), (19, .sure, ii i)]) (fun _ => []) (fun i => K + 1 - i) 0 (Nat.zero_le _) (by repeat' first | exact Sub.nil _ | refine Sub.auto ?_) (Subp.take (t := ?_) ?_) ?_
  rotate_left
  (repeat first | exact HTake.nil | (apply HTake.cons; focus (repeat first | exact HPick.hit | apply HPick.miss)))
  intro i i1
  by_cases hi : i < K + 1
  · have z4 := rp_le (rp head5S whileS (K + 1)) braceS i (by omega)
    repeat' first | refine Ops.tag rfl ?_ | (refine OpsT.go ?_; (conv => arg 7; whnf)) | ((with_reducible refine Stp.isSum ?_); refine Stp.sum ?_) | ((with_reducible refine Stp.isDec ?_); first | refine Stp.decT ?_) | refine Stp.pure rfl ?_ | refine Ops.nil ?_ | ((with_reducible refine Side.id ?_); first | refine Side.auto ?_) | ((with_reducible refine Br.id ?_); first | (with_reducible first | refine br_true rfl ?_)) | ((with_reducible refine SemWp.id ?_); first | refine sem_seq ?_ | refine sem_region rfl ?_ | refine sem_cond rfl ?_ | refine sem_block ?_ | refine sem_skip ?_) | ((with_reducible refine qThen.id ?_); first | refine qThen.go ?_) | ((with_reducible refine hinBlock.id ?_); first | refine hinBlock.go ?_) | ((with_reducible refine hround.id ?_); first | refine hround.go ?_) | refine Stp.valS ?_
    refine Fin.mk ⟨i + 1, by omega, by omega, by repeat' first | exact Sub.nil _ | refine Sub.auto ?_ rfl (by first | rfl | assumption | omega | exact congrArg (fun x => HV.v (Value.string x)) (rp_step _ _ _)), Subp.take (t := ?_) ?_⟩
    rotate_left
    (repeat first | exact HTake.nil | (apply HTake.cons; focus (repeat first | exact HPick.hit | apply HPick.miss)))
  have hik : i = K + 1 := by omega
  subst hik
  clear hi i1
  have z4 := rp_le (rp head5S whileS (K + 1)) braceS (K + 1) (by omega)
  repeat' first | refine Ops.tag rfl ?_ | ((with_reducible first | refine OpsT.yes ?_); (conv => arg 7; whnf)) | (refine OpsT.go ?_; (conv => arg 7; whnf)) | (with_reducible first | refine Stp.andT ?_ | refine Stp.andT2 ?_) | ((with_reducible refine Stp.isSum ?_); refine Stp.sum ?_) | ((with_reducible refine Stp.isDec ?_); first | refine Stp.decF ?_) | ((with_reducible refine Stp.isEq ?_); first | refine Stp.eqT ?_) | refine Stp.pure rfl ?_ | ((with_reducible refine PutK.isSet ?_); refine PutK.set (by repeat first | exact HsetIs.hit) ?_) | refine PutK.mk' rfl ?_ | refine Ops.nil ?_ | ((with_reducible refine Look.id ?_); refine Look.auto ?_ (by repeat first | exact HGet.hit); try (conv => arg 7; whnf)) | ((with_reducible refine Side.id ?_); first | refine Side.auto ?_) | ((with_reducible refine Br.id ?_); first | (with_reducible first | refine br_false rfl ?_)) | ((with_reducible refine SemWp.id ?_); first | refine sem_seq ?_ | refine sem_region rfl ?_ | refine sem_cond rfl ?_ | refine sem_exit ?_ | refine sem_ret ?_ | refine sem_skip ?_) | ((with_reducible refine qThen.id ?_); first | refine qThen.go ?_) | refine Stp.valS ?_ | refine Stp.valSC ?_ | refine Stp.look ?_ | refine Stp.call ?_ | refine Stp.callC ?_ | refine Stp.eff ?_ | ((with_reducible refine CallWp.id ?_); first | refine Pur.call (P2) ?_ | refine Pur.call (Num_spec _) ?_) | ((with_reducible refine CallC.id ?_); first | (refine Pur.askC (awake_spec) ?_ ?_; focus (intro h; first | exact rfl))) | (refine newN (fun r hr => ?_); simp only [keys, List.nil_append, List.cons_append, List.map_cons, List.map_nil, List.mem_cons, List.not_mem_nil, not_or, or_false, not_false_eq_true] at hr; (repeat (obtain ⟨_, hr⟩ := hr))) | ((with_reducible refine BodyR.id ?_); first | refine BodyR.ret ?_) | ((with_reducible refine ResG.id ?_); first | refine ResG.tmp rfl ?_ | refine ResG.nil ?_) | ((with_reducible refine Upd.id ?_); first | (refine Upd.lit rfl ?_; (conv => whnf)))
  first | exact Fin.mk rfl | (have e0 : (⟨#[112,114,111,99,32,109,32,40,32,41,32,123,32,97,115,115,117,109,101,32]⟩ : ByteArray).size = 20 := rfl; exact Fin.mk (by rw [e0]; simp [tupOf, bb]))
theorem ParseDeep_spec (n : Int) (hn : (Lit.int .u8 n).wf = true) (c : Int) (hc : (Lit.int .u8 c).wf = true) : Pur cx 5 [.v (.int .u8 n), .v (.int .u8 c)] (bb true) := by
  have hn : 0 ≤ n ∧ n ≤ 255 := by simpa [Lit.wf, IntKind.min, IntKind.max, IntKind.signed, IntKind.bits] using hn
  have hc : 0 ≤ c ∧ c ≤ 255 := by simpa [Lit.wf, IntKind.min, IntKind.max, IntKind.signed, IntKind.bits] using hc
  obtain ⟨K, hK⟩ : ∃ K : Nat, n.tmod 60 = K := ⟨(n.tmod 60).toNat, by rw [Int.tmod_eq_emod_of_nonneg (by omega)]; omega⟩
  obtain ⟨v, hv⟩ : ∃ v : Nat, c.tmod 4 = v := ⟨(c.tmod 4).toNat, by rw [Int.tmod_eq_emod_of_nonneg (by omega)]; omega⟩
  have K6 : K < 60 := by rw [Int.tmod_eq_emod_of_nonneg (by omega)] at hK; omega
  have v4 : v < 4 := by rw [Int.tmod_eq_emod_of_nonneg (by omega)] at hv; omega
  have P1 := Prog_spec (deepT (K + 1) v)
  have P2 := Prog_spec (blockT (K + 1))
  have O1 := deep_prog v4 K6
  have O2 := block_prog (K + 1) (by omega)
  unfold progV at P1 P2
  rw [O1] at P1
  rw [O2] at P2
  have ga : [HV.v (.string ⟨#[40]⟩), .v (.string ⟨#[45]⟩), .v (.string ⟨#[110, 111, 116]⟩), .v (.string ⟨#[91]⟩)].getD ((v : Nat) : Int).toNat default = ss (aheadS v).2 := by
    rw [Int.toNat_natCast]
    match v, v4 with
    | 0, _ => rfl
    | 1, _ => rfl
    | 2, _ => rfl
    | 3, _ => rfl
  have gb : [HV.v (.string ⟨#[41]⟩), .v (.string ⟨#[]⟩), .v (.string ⟨#[]⟩), .v (.string ⟨#[93]⟩)].getD ((v : Nat) : Int).toNat default = ss (behindS v) := by
    rw [Int.toNat_natCast]
    match v, v4 with
    | 0, _ => rfl
    | 1, _ => rfl
    | 2, _ => rfl
    | 3, _ => rfl
  have za := ahead_size v
  have zb := behind_size v
  unfold deepT at P1
  unfold blockT at P2
  generalize (progR (rp (rp head5S whileS (K + 1)) braceS (K + 1) ++ braceS)).1 = q2 at *
  by_cases h2 : v < 2
  · have eB : beginS v = ⟨#[112,114,111,99,32,109,32,40,32,41,32,123,32,120,32,61,32]⟩ := if_pos h2
    have eM : midS v = ⟨#[49]⟩ := if_pos h2
    rw [eB, eM] at P1
    by_cases h5 : K < 50
    · rw [if_pos h5] at P1
      rw [if_pos (by omega)] at P2
      exact pd0 n c hn K v K6 v4 hK hv h2 h5 _ _ za zb _ _ P1 P2 ga gb
    · rw [if_neg h5] at P1
      rw [if_neg (by omega)] at P2
      exact pd1 n c hn K v K6 v4 hK hv h2 h5 _ _ za zb _ _ P1 P2 ga gb
  · have eB : beginS v = ⟨#[112,114,111,99,32,109,32,40,32,41,32,123,32,97,115,115,117,109,101,32]⟩ := if_neg h2
    have eM : midS v = ⟨#[116,114,117,101]⟩ := if_neg h2
    rw [eB, eM] at P1
    by_cases h5 : K < 50
    · rw [if_pos h5] at P1
      rw [if_pos (by omega)] at P2
      exact pd2 n c hn K v K6 v4 hK hv h2 h5 _ _ za zb _ _ P1 P2 ga gb
    · rw [if_neg h5] at P1
      rw [if_neg (by omega)] at P2
      exact pd3 n c hn K v K6 v4 hK hv h2 h5 _ _ za zb _ _ P1 P2 ga gb
end Go.Proofs.Hk

import Derived.Test.YtcihapdaapkdjaaDoorU1
import Derived.Test.YtcihapdaapkdjaaDoorP16
set_option linter.unusedSimpArgs false
set_option linter.unusedVariables false
namespace Go.Proofs.Hk
open Go Go.Proofs Lx

theorem d1_eq {n : Int} {k : Nat} (h : n = 48 + k) : (⟨(List.map byteOf [.v (.int .u8 n)]).toArray⟩ : ByteArray) = d1 k := by
  subst h
  show (⟨[UInt8.ofNat (48 + (k : Int)).toNat].toArray⟩ : ByteArray) = _
  rw [show (48 + (k : Int)).toNat = 48 + k from by omega]; rfl
theorem dig1 (n : Nat) (h : n < 10) : Pur cx 26 [ii n] (ss (digS n)) := by
  have e := d1_eq (n := 48 + (n : Int)) (k := n) rfl
  have g : digS n = d1 n := if_pos h
  have w8 : IntKind.u8.wrap (48 + (n : Int)) = 48 + (n : Int) := IntWalk.u8_in _ (by omega)
  refine Pur.of (sem_calls' cx (fn := Tryd.f26) rfl rfl rfl rfl ?_)
  repeat' first | refine Ops.tag rfl ?_ | (refine OpsT.go ?_; (conv => arg 7; whnf)) | ((with_reducible refine Stp.isSum ?_); refine Stp.sum ?_) | ((with_reducible refine Stp.isDec ?_); first | refine Stp.decT ?_) | refine Stp.pure rfl ?_ | refine Ops.nil ?_ | ((with_reducible refine Side.id ?_); first | refine Side.auto ?_) | ((with_reducible refine Br.id ?_); first | (with_reducible first | refine br_true rfl ?_)) | ((with_reducible refine SemWp.id ?_); first | refine sem_seq ?_ | refine sem_region rfl ?_ | refine sem_cond rfl ?_ | refine sem_ret ?_) | ((with_reducible refine qThen.id ?_); first | refine qThen.go ?_ | refine qThen.ret ?_) | refine Stp.valS ?_ | ((with_reducible refine BodyR.id ?_); first | refine BodyR.ret ?_) | ((with_reducible refine ResG.id ?_); first | refine ResG.tmp rfl ?_ | refine ResG.nil ?_) | rw [w8] | rw [e]
  rw [g]
  exact Fin.mk rfl
theorem dig2 (n m : Nat) (h : n = 10 * m + n % 10) (hm : 1 ≤ m) (hn : n < 1000) (x : ByteArray) (D : Pur cx 26 [ii m] (ss x)) (hx : x.size ≤ 3) (g : digS n = x ++ d1 (n % 10)) : Pur cx 26 [ii n] (ss (digS n)) := by
  have e := d1_eq (n := 48 + ((n % 10 : Nat) : Int)) (k := n % 10) rfl
  have hs : (d1 (n % 10)).size = 1 := rfl
  have w8 : IntKind.u8.wrap (48 + ((n % 10 : Nat) : Int)) = 48 + ((n % 10 : Nat) : Int) := IntWalk.u8_in _ (by omega)
  have q : (n : Int).tdiv 10 = (m : Int) := by rw [Int.tdiv_eq_ediv_of_nonneg (by omega)]; omega
  have r : (n : Int).tmod 10 = ((n % 10 : Nat) : Int) := by rw [Int.tmod_eq_emod_of_nonneg (by omega)]; omega
  rw [g]
  generalize n % 10 = k at *
  refine Pur.of (sem_calls' cx (fn := Tryd.f26) rfl rfl rfl rfl ?_)
  repeat' first | refine Ops.tag rfl ?_ | (refine OpsT.go ?_; (conv => arg 7; whnf)) | ((with_reducible refine Stp.isDec ?_); first | refine Stp.decF ?_) | refine Stp.pure rfl ?_ | refine Ops.nil ?_ | (refine DOps.cons rfl rfl ?_; (conv => arg 7; whnf)) | ((with_reducible refine DStp.isSum ?_); refine DStp.sum ?_) | refine DStp.pure rfl ?_ | refine PutD.mk' rfl ?_ | refine DOps.nil rfl ?_ | ((with_reducible refine Side.id ?_); first | refine Side.auto ?_) | ((with_reducible refine Br.id ?_); first | (with_reducible first | refine br_false rfl ?_)) | ((with_reducible refine SemWp.id ?_); first | refine sem_seq ?_ | refine sem_region rfl ?_ | refine sem_cond rfl ?_ | refine sem_ret ?_ | refine sem_skip ?_ | refine sem_draw ?_) | ((with_reducible refine qThen.id ?_); first | refine qThen.go ?_) | refine DStp.valS ?_ | refine DStp.call ?_ | ((with_reducible refine QAsk.id ?_); first | (refine Pur.ask (D) ?_ ?_; focus (intro h; first | exact rfl))) | ((with_reducible refine DrawReg.id ?_); refine drawQ' cx (by decide +kernel) rfl ?_) | ((with_reducible refine BodyR.id ?_); first | refine BodyR.ret ?_) | ((with_reducible refine ResG.id ?_); first | refine ResG.tmp rfl ?_ | refine ResG.nil ?_) | rw [q] | rw [r] | rw [w8] | rw [e]
  exact Fin.mk rfl
theorem digits_spec (n : Nat) (h : n < 256) : Pur cx 26 [ii n] (ss (digS n)) := by
  by_cases h1 : n < 10
  · exact dig1 n h1
  · by_cases h2 : n < 100
    · have D := dig1 (n / 10) (by omega)
      rw [show digS (n / 10) = d1 (n / 10) from if_pos (by omega)] at D
      exact dig2 n (n / 10) (by omega) (by omega) (by omega) _ D (by show 1 ≤ 3; omega) (by unfold digS; rw [if_neg h1, if_pos h2])
    · have D0 := dig1 (n / 100) (by omega)
      rw [show digS (n / 100) = d1 (n / 100) from if_pos (by omega)] at D0
      have D := dig2 (n / 10) (n / 100) (by omega) (by omega) (by omega) _ D0 (by show 1 ≤ 3; omega) (by unfold digS; rw [if_neg (by omega), if_pos (by omega), show n / 10 / 10 = n / 100 from by omega])
      rw [show digS (n / 10) = d1 (n / 100) ++ d1 (n / 10 % 10) from by unfold digS; rw [if_neg (by omega), if_pos (by omega), show n / 10 / 10 = n / 100 from by omega]] at D
      exact dig2 n (n / 10) (by omega) (by omega) (by omega) _ D (by show (d1 _ ++ d1 _).size ≤ 3; simp only [ByteArray.size_append]; show 1 + 1 ≤ 3; omega) (by unfold digS; rw [if_neg h1, if_neg h2])
def opT : Nat → ByteArray
  | 0 => ⟨#[32, 43, 32]⟩
  | _ => ⟨#[32, 45, 32]⟩
def sumS : ByteArray → List (Nat × Nat) → ByteArray
  | s, [] => s
  | s, (k, n) :: r => sumS (s ++ opT k ++ digS n) r
theorem opT_eq (k : Nat) : opT k = sp ++ opS k ++ sp := by
  cases k with
  | zero => kernel_rfl
  | succ k => show (⟨#[32, 45, 32]⟩ : ByteArray) = sp ++ ⟨#[45]⟩ ++ sp; kernel_rfl
theorem sumS_cat : ∀ (r : List (Nat × Nat)) (s : ByteArray), sumS s r = s ++ cat (pairP r)
  | [], s => by
    simp only [sumS, pairP, cat]
    rw [show (⟨#[]⟩ : ByteArray) = ByteArray.empty from rfl, ByteArray.append_empty]
  | (k, n) :: r, s => by
    simp only [sumS, pairP, cat]
    rw [sumS_cat r, opT_eq]
    simp only [ByteArray.append_assoc]
theorem sumS_snoc : ∀ (r : List (Nat × Nat)) (s : ByteArray) (k n : Nat), sumS s (r ++ [(k, n)]) = sumS s r ++ opT k ++ digS n
  | [], s, k, n => rfl
  | (k', n') :: r, s, k, n => by simp only [List.cons_append, sumS, sumS_snoc r]
theorem sumN_snoc : ∀ (r : List (Nat × Nat)) (l : List ND) (k n : Nat), sumN l (r ++ [(k, n)]) = sumN l r ++ [nd1 n] ++ [⟨4 + (k : Int), 0, noS, ((sumN l r).length : Int) - 1, ((sumN l r).length : Int)⟩]
  | [], l, k, n => rfl
  | (k', n') :: r, l, k, n => by simp only [List.cons_append, sumN, sumN_snoc r]
theorem sumN_len : ∀ (r : List (Nat × Nat)) (l : List ND), (sumN l r).length = l.length + 2 * r.length
  | [], l => rfl
  | (k', n') :: r, l => by simp only [sumN, sumN_len r, List.length_append, List.length_cons, List.length_nil]; omega
theorem sumS_size : ∀ (r : List (Nat × Nat)) (s : ByteArray), (sumS s r).size ≤ s.size + 6 * r.length
  | [], s => Nat.le_refl _
  | (k, n) :: r, s => by
    have := sumS_size r (s ++ opT k ++ digS n)
    have d := dig_size n
    have o : (opT k).size = 3 := by cases k <;> rfl
    simp only [sumS, ByteArray.size_append, List.length_cons] at *
    omega
theorem sum_text (n0 : Nat) (r : List (Nat × Nat)) : (⟨#[112,114,111,99,32,109,32,40,32,41,32,123,32,120,32,61,32]⟩ : ByteArray) ++ sumS (digS n0) r ++ ⟨#[32,59,32,125]⟩ = cat (sumP n0 r) := by
  unfold sumP
  rw [sumS_cat, cat_append, cat_append, cat_append]
  have h1 : (⟨#[112,114,111,99,32,109,32,40,32,41,32,123,32,120,32,61,32]⟩ : ByteArray) = cat head6 ++ (cat [(sp, 1, ⟨#[120]⟩), (sp, 4, ⟨#[61]⟩)] ++ sp) := by kernel_rfl
  have h2 : (⟨#[32,59,32,125]⟩ : ByteArray) = cat [(sp, 4, ⟨#[59]⟩), (sp, 4, ⟨#[125]⟩)] := by kernel_rfl
  have h3 : cat [(sp, 1, ⟨#[120]⟩), (sp, 4, ⟨#[61]⟩), (sp, 2, digS n0)] = cat [(sp, 1, ⟨#[120]⟩), (sp, 4, ⟨#[61]⟩)] ++ (sp ++ digS n0) := by
    rw [show ([(sp, 1, ⟨#[120]⟩), (sp, 4, ⟨#[61]⟩), (sp, 2, digS n0)] : List Pc) = [(sp, 1, ⟨#[120]⟩), (sp, 4, ⟨#[61]⟩)] ++ [(sp, 2, digS n0)] from rfl, cat_append]
    congr 1
    simp only [cat]
    rw [show (⟨#[]⟩ : ByteArray) = ByteArray.empty from rfl, ByteArray.append_empty]
  rw [h1, h2, h3]
  simp only [ByteArray.append_assoc]
theorem prs_get : ∀ (l : List Nat) (j : Nat), (prs l)[j]? = if h : 2 * j + 1 < l.length then some (l[2 * j] % 2, l[2 * j + 1]) else none
  | [], j => by simp [prs]
  | [a], j => by simp [prs]
  | a :: b :: l, 0 => by simp [prs]
  | a :: b :: l, j + 1 => by
    simp only [prs, List.getElem?_cons_succ, prs_get l j, List.length_cons]
    by_cases h : 2 * j + 1 < l.length
    · rw [dif_pos h, dif_pos (by omega)]
      simp only [show 2 * (j + 1) = 2 * j + 1 + 1 from by omega, List.getElem_cons_succ]
    · rw [dif_neg h, dif_neg (by omega)]
theorem prs_len : ∀ (l : List Nat), (prs l).length = l.length / 2
  | [] => rfl
  | [a] => by simp [prs]
  | a :: b :: l => by simp only [prs, List.length_cons, prs_len l]; omega
def cn (n : Nat) : HV := cc n
set_option maxHeartbeats 4000000 in
theorem tree_spec (n0 : Nat) (l : List Nat) (h0 : n0 < 256) (hl : ∀ x ∈ l, x < 256) (h1 : l.length ≤ 100) : Pur cx 12 [.list .no 1 ((n0 :: l).map cn)] (.tup [ss (sumS (digS n0) (prs l)), LNs (sumN [nd1 n0] (prs l))]) := by
  have D0 := digits_spec n0 h0
  have m : ((n0 :: l).map cn).length = l.length + 1 := by simp
  have g0 : ((n0 :: l).map cn).getD (0 : Int).toNat default = cc n0 := rfl
  have gj := fun (j : Nat) (hj : j < l.length) => (show ((n0 :: l).map cn).getD ((j + 1 : Nat) : Int).toNat default = cc l[j] from by simp [List.getD_eq_getElem?_getD, hj, cn])
  have pl := prs_len l
  have d0 := dig_size n0
  have w0 : IntKind.i64.wrap (n0 : Int) = (n0 : Int) := wrap64 (by omega)
  refine Pur.ofW (sem_calls' cx (fn := Tryd.f12) rfl rfl rfl rfl ?_)
  repeat' first | refine Ops.tag rfl ?_ | (refine OpsT.go ?_; (conv => arg 7; whnf)) | ((with_reducible refine Stp.isSum ?_); refine Stp.sum ?_) | refine Stp.pure rfl ?_ | refine PutK.mk' rfl ?_ | refine Ops.nil ?_ | ((with_reducible refine Side.id ?_); first | refine Side.auto ?_) | ((with_reducible refine SemWp.id ?_); first | refine sem_seq ?_ | refine sem_region rfl ?_ | refine sem_block ?_) | ((with_reducible refine qThen.id ?_); first | refine qThen.go ?_) | refine Stp.valS ?_ | refine Stp.call ?_ | ((with_reducible refine CallWp.id ?_); first | refine Pur.call (D0) ?_) | rw [g0]
  refine sem_full_own cx 5 5 (by simp) rfl ?_
  intro rt hrt
  simp only [keys, List.map_cons, List.map_nil, List.mem_cons, List.not_mem_nil, not_or, or_false, not_false_eq_true] at hrt
  refine sem_loop cx (ι := Nat) (fun j => j ≤ (prs l).length) (fun j => [(0, .sure, .list .no 1 ((n0 :: l).map cn)), (4, .sure, ss (sumS (digS n0) ((prs l).take j))), (5, .sure, .list (.own rt 0) 5 ((sumN [nd1 n0] ((prs l).take j)).map encN)), (6, .sure, ii (1 + 2 * j : Nat))]) (fun j => [(rt, .tok (sumN [nd1 n0] ((prs l).take j)).length)]) (fun j => (prs l).length - j) 0 (Nat.zero_le _) (by repeat' first | exact Sub.nil _ | refine Sub.auto ?_) (Subp.take (t := ?_) ?_) ?_
  rotate_left
  (repeat first | exact HTake.nil | (apply HTake.cons; focus (repeat first | exact HPick.hit | apply HPick.miss)))
  intro j j1
  by_cases hj : j < (prs l).length
  · have hx := prs_get l j
    rw [dif_pos (by omega)] at hx
    have ga := gj (2 * j) (by omega)
    have gb := gj (2 * j + 1) (by omega)
    have hb := hl _ (List.getElem_mem (show 2 * j + 1 < l.length by omega))
    have ha := hl _ (List.getElem_mem (show 2 * j < l.length by omega))
    have et : (prs l).take (j + 1) = (prs l).take j ++ [(l[2 * j] % 2, l[2 * j + 1])] := by
      rw [List.take_succ_eq_append_getElem hj]
      congr 1
      rw [List.getElem?_eq_getElem hj] at hx
      rw [Option.some.inj hx]
    have tl : ((prs l).take j).length = j := by simp; omega
    have zs := sumS_size ((prs l).take j) (digS n0)
    have zn := sumN_len ((prs l).take j) [nd1 n0]
    rw [tl] at zs zn
    simp only [List.length_singleton] at zn
    have es := sumS_snoc ((prs l).take j) (digS n0) (l[2 * j] % 2) l[2 * j + 1]
    have en := sumN_snoc ((prs l).take j) [nd1 n0] (l[2 * j] % 2) l[2 * j + 1]
    rw [← et] at es en
    generalize l[2 * j] = a at *
    generalize l[2 * j + 1] = b at *
    generalize sumS (digS n0) ((prs l).take j) = S at *
    generalize sumN [nd1 n0] ((prs l).take j) = N at *
    have mN : (N.map encN).length = N.length := by simp
    have D := digits_spec b hb
    have db := dig_size b
    have wa : IntKind.i64.wrap (a : Int) = (a : Int) := wrap64 (by omega)
    have wb : IntKind.i64.wrap (b : Int) = (b : Int) := wrap64 (by omega)
    have tm : (a : Int).tmod 2 = ((a % 2 : Nat) : Int) := by rw [Int.tmod_eq_emod_of_nonneg (by omega)]; omega
    have k2 : a % 2 < 2 := Nat.mod_lt _ (by decide)
    have gk : [HV.v (.string ⟨#[32, 43, 32]⟩), .v (.string ⟨#[32, 45, 32]⟩)].getD ((a % 2 : Nat) : Int).toNat default = ss (opT (a % 2)) := by
      rw [Int.toNat_natCast]
      match a % 2, k2 with
      | 0, _ => rfl
      | 1, _ => rfl
    have ok : (opT (a % 2)).size = 3 := by cases a % 2 <;> rfl
    generalize a % 2 = k at *
    have e1 : ((1 + 2 * j : Nat) : Int) = ((2 * j + 1 : Nat) : Int) := by omega
    have e2 : ((2 * j + 1 : Nat) : Int) + 1 = ((2 * j + 1 + 1 : Nat) : Int) := by omega
    clear hx et tl hl gj g0 D0
    repeat' first | refine Ops.tag rfl ?_ | (refine OpsT.go ?_; (conv => arg 7; whnf)) | ((with_reducible refine Stp.isSum ?_); refine Stp.sum ?_) | ((with_reducible refine Stp.isDec ?_); first | refine Stp.decT ?_) | refine Stp.pure rfl ?_ | ((with_reducible refine PutK.isSet ?_); refine PutK.set (by repeat first | exact HsetIs.hit) ?_) | refine PutK.mk' rfl ?_ | refine Ops.nil ?_ | (refine DOps.cons rfl rfl ?_; (conv => arg 7; whnf)) | ((with_reducible refine DStp.isSum ?_); refine DStp.sum ?_) | refine DStp.pure rfl ?_ | refine PutD.mk' rfl ?_ | refine DOps.nil rfl ?_ | ((with_reducible refine Look.id ?_); refine Look.auto ?_ (by repeat first | exact HGet.hit); try (conv => arg 7; whnf)) | ((with_reducible refine Side.id ?_); first | (refine Side.mk (by simp only [ByteArray.size_append]; omega) ?_) | refine Side.auto ?_) | ((with_reducible refine Br.id ?_); first | (with_reducible first | refine br_true rfl ?_)) | ((with_reducible refine SemWp.id ?_); first | refine sem_seq ?_ | refine sem_region rfl ?_ | refine sem_cond rfl ?_ | refine sem_block ?_ | refine sem_skip ?_ | refine sem_draw ?_) | ((with_reducible refine qThen.id ?_); first | refine qThen.go ?_) | ((with_reducible refine hinBlock.id ?_); first | refine hinBlock.go ?_) | ((with_reducible refine hround.id ?_); first | refine hround.go ?_) | refine Stp.valS ?_ | refine Stp.look ?_ | refine Stp.eff ?_ | refine DStp.valS ?_ | refine DStp.call ?_ | ((with_reducible refine QAsk.id ?_); first | (refine Pur.ask (D) ?_ ?_; focus (intro h; first | exact rfl))) | ((with_reducible refine DrawReg.id ?_); refine drawQ' cx (by decide +kernel) rfl ?_) | rw [e1, ga] | rw [e2] | rw [gb] | rw [tm] | rw [gk]
    refine Fin.mk ⟨j + 1, by omega, by omega, Sub.cons rfl rfl (Sub.cons rfl ?_ (Sub.cons rfl ?_ (Sub.cons rfl ?_ (Sub.nil _)))), Subp.take (t := []) ?_⟩
    · rw [es]; rfl
    · rw [en]
      simp only [List.map_append, List.map_cons, List.map_nil, List.length_append, List.length_map, List.length_singleton]
      rw [wrap64 (by omega)]
      simp only [show ((N.length + 1 : Nat) : Int) - 1 = (N.length : Int) from by omega]
      rfl
    · show HV.v (.int .i64 _) = HV.v (.int .i64 _)
      congr 2
      omega
    · rw [en]
      simp only [List.length_append, List.length_singleton]
      exact HTake.cons HPick.hit HTake.nil
  · have : j = (prs l).length := by omega
    subst this
    rw [List.take_length]
    repeat' first | refine Ops.tag rfl ?_ | (refine OpsT.go ?_; (conv => arg 7; whnf)) | ((with_reducible refine Stp.isSum ?_); refine Stp.sum ?_) | ((with_reducible refine Stp.isDec ?_); first | refine Stp.decF ?_) | refine Stp.pure rfl ?_ | refine Ops.nil ?_ | ((with_reducible refine Br.id ?_); first | (with_reducible first | refine br_false rfl ?_)) | ((with_reducible refine SemWp.id ?_); first | refine sem_seq ?_ | refine sem_region rfl ?_ | refine sem_cond rfl ?_ | refine sem_exit ?_ | refine sem_ret ?_) | ((with_reducible refine qThen.id ?_); first | refine qThen.go ?_) | ((with_reducible refine BodyR.id ?_); first | refine BodyR.ret ?_) | ((with_reducible refine ResG.id ?_); first | refine ResG.tmp rfl ?_ | refine ResG.nil ?_)
    exact Fin.mk ⟨_, rfl, Weaker.tup (.cons (Weaker.refl _) (.cons (Weaker.tok _ _ _) .nil))⟩
set_option maxHeartbeats 4000000 in
theorem pl_some (n0 : Nat) (l : List Nat) (h0 : n0 < 256) (hl : ∀ x ∈ l, x < 256) (h1 : l.length ≤ 99) : Pur cx 6 [.list .no 1 ((n0 :: l).map cn)] (bb true) := by
  have T := tree_spec n0 l h0 hl (by omega)
  have m : ((n0 :: l).map cn).length = l.length + 1 := by simp
  have pl := prs_len l
  have hr : ∀ x ∈ prs l, x.1 < 2 ∧ x.2 < 256 := fun x hx => by
    obtain ⟨j, hj, rfl⟩ := List.mem_iff_getElem.1 hx
    have := prs_get l j
    rw [dif_pos (by omega), List.getElem?_eq_getElem hj] at this
    rw [Option.some.inj this]
    exact ⟨Nat.mod_lt _ (by decide), hl _ (List.getElem_mem _)⟩
  have zs := sumS_size (prs l) (digS n0)
  have zn := sumN_len (prs l) [nd1 n0]
  have d0 := dig_size n0
  simp only [List.length_singleton] at zn
  have P := Prog_spec (cat (sumP n0 (prs l)))
  rw [sum_prog h0 hr (by omega), ← sum_text] at P
  unfold progV LPDs at P
  simp only [List.map_cons, List.map_nil] at P
  unfold encPD encPD' LSDs sdE at P
  simp only [List.map_cons, List.map_nil] at P
  rw [encSDm] at P
  generalize sumS (digS n0) (prs l) = S at *
  generalize sumN [nd1 n0] (prs l) = N at *
  have mN : (N.map encN).length = N.length := by simp
  have gN := fun (i : Nat) (hi : i < N.length) => getD_map (f := encN) hi
  unfold LNs at P T
  have k1 : (⟨#[112,114,111,99,32,109,32,40,32,41,32,123,32,120,32,61,32]⟩ : ByteArray).size = 17 := rfl
  have k2 : (⟨#[32,59,32,125]⟩ : ByteArray).size = 4 := rfl
  generalize (n0 :: l).map cn = A at *
  refine Pur.of (sem_calls' cx (fn := Tryd.f6) rfl rfl rfl rfl ?_)
  repeat' first | refine Ops.tag rfl ?_ | ((with_reducible first | refine OpsT.yes' ?_); (conv => arg 7; whnf)) | (refine OpsT.go ?_; (conv => arg 7; whnf)) | (with_reducible first | refine Stp.orF ?_ | refine Stp.orF2 ?_) | ((with_reducible refine Stp.isDec ?_); first | refine Stp.decF ?_) | ((with_reducible refine Stp.isEq ?_); first | refine Stp.eqF ?_) | ((with_reducible refine Stp.isNe ?_); first | refine Stp.neF ?_) | refine Stp.pure rfl ?_ | ((with_reducible refine PutK.isSet ?_); refine PutK.set (by repeat first | exact HsetIs.hit) ?_) | refine PutK.mk' rfl ?_ | refine Ops.nil ?_ | ((with_reducible refine Look.id ?_); refine Look.auto ?_ (by repeat first | exact HGet.hit); try (conv => arg 7; whnf)) | ((with_reducible refine Side.id ?_); first | (refine Side.mk (by simp only [ByteArray.size_append]; omega) ?_) | refine Side.auto ?_) | ((with_reducible refine Br.id ?_); first | (with_reducible first | refine br_false rfl ?_)) | ((with_reducible refine SemWp.id ?_); first | refine sem_seq ?_ | refine sem_region rfl ?_ | refine sem_cond rfl ?_ | refine sem_block ?_ | refine sem_skip ?_) | ((with_reducible refine qThen.id ?_); first | refine qThen.go ?_) | refine Stp.valS ?_ | refine Stp.valSC ?_ | refine Stp.look ?_ | refine Stp.call ?_ | refine Stp.eff ?_ | ((with_reducible refine CallWp.id ?_); first | refine Pur.call (T) ?_ | refine Pur.call (P) ?_ | refine Pur.call (Num_spec _) ?_) | (refine newN (fun r hr => ?_); simp only [keys, List.nil_append, List.cons_append, List.map_cons, List.map_nil, List.mem_cons, List.not_mem_nil, not_or, or_false, not_false_eq_true] at hr; (repeat (obtain ⟨_, hr⟩ := hr))) | ((with_reducible refine Upd.id ?_); first | (refine Upd.lit rfl ?_; (conv => whnf)))
  refine sem_loop cx (ι := Nat) (fun i => i ≤ N.length) (fun i => [(4, .sure, .list .no 5 (N.map encN)), (5, .sure, .ptr r 0), (8, .sure, ii i)]) (fun _ => [(r, .cells [.list .no 5 [.agg [ss ⟨#[109]⟩, LSs' [], ss noS, LSs' [], .list .no 7 [.agg [ii 1, ss ⟨#[120]⟩, ss noS, .list .no 5 (N.map encN), LLNs [], LSDs [], LSDs []]]]]] 25)]) (fun i => N.length - i) 0 (Nat.zero_le _) (by repeat' first | exact Sub.nil _ | refine Sub.auto ?_) (Subp.of_eq rfl) ?_
  intro i i1
  by_cases hi : i < N.length
  · have g1 := gN i hi
    generalize N[i] = x at *
    obtain ⟨k, n, s, a, b⟩ := x
    have g1 : (N.map encN).getD (i : Int).toNat default = .agg [ii k, ii n, ss s, ii a, ii b] := g1
    have e : (!(k == k && (n == n && (strEq s s && (a == a && (b == b && true)))))) = false := by simp [strEq_refl]
    repeat' first | (with_reducible first | refine DStp.rwB (e) ?_) | refine Ops.tag rfl ?_ | (refine OpsT.go ?_; (conv => arg 7; whnf)) | ((with_reducible refine Stp.isSum ?_); refine Stp.sum ?_) | ((with_reducible refine Stp.isDec ?_); first | refine Stp.decT ?_) | refine Stp.pure rfl ?_ | refine Ops.nil ?_ | (refine DOps.cons rfl rfl ?_; (conv => arg 7; whnf)) | refine DStp.pure rfl ?_ | refine DOps.nil rfl ?_ | ((with_reducible refine Look.id ?_); refine Look.auto ?_ (by repeat first | exact HGet.hit); try (conv => arg 7; whnf)) | ((with_reducible refine Side.id ?_); first | refine Side.auto ?_) | ((with_reducible refine Br.id ?_); first | (with_reducible first | refine br_true rfl ?_ | refine br_false rfl ?_)) | ((with_reducible refine SemWp.id ?_); first | refine sem_seq ?_ | refine sem_region rfl ?_ | refine sem_cond rfl ?_ | refine sem_block ?_ | refine sem_skip ?_ | refine sem_draw ?_) | ((with_reducible refine qThen.id ?_); first | refine qThen.go ?_) | ((with_reducible refine hinBlock.id ?_); first | refine hinBlock.go ?_) | ((with_reducible refine hround.id ?_); first | refine hround.go ?_) | refine DStp.valS ?_ | refine DStp.look ?_ | ((with_reducible refine DrawReg.id ?_); refine drawQ' cx (by decide +kernel) rfl ?_) | rw [g1]
    exact Fin.mk ⟨i + 1, by omega, by omega, by repeat' first | exact Sub.nil _ | refine Sub.auto ?_, Subp.of_eq rfl⟩
  · have : i = N.length := by omega
    subst this
    repeat' first | refine Ops.tag rfl ?_ | (refine OpsT.go ?_; (conv => arg 7; whnf)) | ((with_reducible refine Stp.isDec ?_); first | refine Stp.decF ?_) | refine Stp.pure rfl ?_ | refine PutK.mk' rfl ?_ | refine Ops.nil ?_ | ((with_reducible refine Side.id ?_); first | refine Side.auto ?_) | ((with_reducible refine Br.id ?_); first | (with_reducible first | refine br_false rfl ?_)) | ((with_reducible refine SemWp.id ?_); first | refine sem_seq ?_ | refine sem_region rfl ?_ | refine sem_cond rfl ?_ | refine sem_exit ?_ | refine sem_ret ?_) | ((with_reducible refine qThen.id ?_); first | refine qThen.go ?_) | refine Stp.call ?_ | ((with_reducible refine CallWp.id ?_); first | refine Pur.call (awake_spec) ?_) | ((with_reducible refine BodyR.id ?_); first | refine BodyR.ret ?_) | ((with_reducible refine ResG.id ?_); first | refine ResG.tmp rfl ?_ | refine ResG.nil ?_)
    exact Fin.mk rfl
theorem pl_none (A : List HV) (h : A.length = 0 ∨ A.length > 100) : Pur cx 6 [.list .no 1 A] (bb true) := by
  refine Pur.of (sem_calls' cx (fn := Tryd.f6) rfl rfl rfl rfl ?_)
  rcases h with h | h
  · repeat' first | refine Ops.tag rfl ?_ | (with_reducible first | refine OpsT.no' ?_) | (refine OpsT.go ?_; (conv => arg 7; whnf)) | (with_reducible first | refine Stp.orT ?_) | ((with_reducible refine Stp.isEq ?_); first | refine Stp.eqT ?_) | refine Stp.pure rfl ?_ | refine PutK.mk' rfl ?_ | refine Ops.nil ?_ | ((with_reducible refine Side.id ?_); first | refine Side.auto ?_) | ((with_reducible refine Br.id ?_); first | (with_reducible first | refine br_true rfl ?_)) | ((with_reducible refine SemWp.id ?_); first | refine sem_seq ?_ | refine sem_region rfl ?_ | refine sem_cond rfl ?_ | refine sem_ret ?_) | ((with_reducible refine qThen.id ?_); first | refine qThen.go ?_ | refine qThen.ret ?_) | refine Stp.valS ?_ | refine Stp.call ?_ | ((with_reducible refine CallWp.id ?_); first | refine Pur.call (awake_spec) ?_) | ((with_reducible refine BodyR.id ?_); first | refine BodyR.ret ?_) | ((with_reducible refine ResG.id ?_); first | refine ResG.tmp rfl ?_ | refine ResG.nil ?_)
    exact Fin.mk rfl
  · repeat' first | refine Ops.tag rfl ?_ | ((with_reducible first | refine OpsT.yes' ?_); (conv => arg 7; whnf)) | (refine OpsT.go ?_; (conv => arg 7; whnf)) | (with_reducible first | refine Stp.orF ?_) | ((with_reducible refine Stp.isDec ?_); first | refine Stp.decT ?_) | ((with_reducible refine Stp.isEq ?_); first | refine Stp.eqF ?_) | refine Stp.pure rfl ?_ | refine PutK.mk' rfl ?_ | refine Ops.nil ?_ | ((with_reducible refine Side.id ?_); first | refine Side.auto ?_) | ((with_reducible refine Br.id ?_); first | (with_reducible first | refine br_true rfl ?_)) | ((with_reducible refine SemWp.id ?_); first | refine sem_seq ?_ | refine sem_region rfl ?_ | refine sem_cond rfl ?_ | refine sem_ret ?_) | ((with_reducible refine qThen.id ?_); first | refine qThen.go ?_ | refine qThen.ret ?_) | refine Stp.call ?_ | ((with_reducible refine CallWp.id ?_); first | refine Pur.call (awake_spec) ?_) | ((with_reducible refine BodyR.id ?_); first | refine BodyR.ret ?_) | ((with_reducible refine ResG.id ?_); first | refine ResG.tmp rfl ?_ | refine ResG.nil ?_)
    exact Fin.mk rfl
def LBy (l : List Int) : HV := .list .no 1 (l.map cc)
theorem ParseLeft_args (a : List Int) (h : (∀ x ∈ a, (Lit.int .u8 x).wf = true) ∧ a.length ≤ maxLen) : Pur cx 6 [LBy a] (bb true) := by
  by_cases hz : a.length = 0 ∨ a.length > 100
  · exact pl_none _ (by simpa using hz)
  · have hx : ∀ x ∈ a, 0 ≤ x ∧ x ≤ 255 := fun x hx => by
      have := h.1 x hx
      simpa [Lit.wf, IntKind.min, IntKind.max, IntKind.signed, IntKind.bits] using this
    have e : a.map cc = (a.map Int.toNat).map cn := by
      rw [List.map_map]
      refine List.map_congr_left fun x hxm => ?_
      have := hx x hxm
      simp only [Function.comp, cn]
      rw [Int.toNat_of_nonneg this.1]
    unfold LBy
    rw [e]
    have hy : ∀ x ∈ a.map Int.toNat, x < 256 := fun x hxm => by
      obtain ⟨y, hy, rfl⟩ := List.mem_map.1 hxm
      have := hx y hy
      omega
    have hl : (a.map Int.toNat).length = a.length := by simp
    cases hc : a.map Int.toNat with
    | nil => rw [hc] at hl; exact absurd (.inl hl.symm) hz
    | cons n0 l =>
      rw [hc] at hl hy
      simp only [List.length_cons] at hl
      exact pl_some n0 l (hy n0 List.mem_cons_self) (fun x hx => hy x (List.mem_cons_of_mem _ hx)) (by omega)
end Go.Proofs.Hk

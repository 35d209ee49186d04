import Derived.Test.YtmgcmljldggllaaH21
set_option linter.unusedSimpArgs false
set_option linter.unusedVariables false
set_option linter.unusedVariables false
namespace Go.Proofs.Hk
open Go

/-! What can be closed at once. -/
theorem Side.auto {φ K : Prop} (k : K) (h : φ := by
    first
    | exact True.intro
    | exact rfl
    | exact fun h => h
    | exact fun h => absurd h Bool.false_ne_true
    | omega
    | assumption
    | exact fun h => ⟨h, rfl⟩
    | (intro h; rw [h]; done)
    | (intro h; rw [h]; rfl)
    | exact fun h => ⟨h, h⟩
    | exact fun h => ⟨h, h, rfl⟩
    | (intros; (repeat' apply And.intro) <;> first | exact rfl | assumption | omega)
    | (intros; (try simp only [Bool.and_eq_true, Bool.or_eq_true, Bool.not_eq_true', Bool.and_eq_false_iff, Bool.or_eq_false_iff, decide_eq_true_eq, decide_eq_false_iff_not, beq_iff_eq, bne_iff_ne, beq_eq_false_iff_ne, bne_eq_false_iff_eq, ne_eq, List.length_map, List.length_append, List.length_cons, List.length_nil, List.length_replicate, List.length_take, List.length_drop, List.length_range, ByteArray.size_extract, ByteArray.size_append, Int.toNat_natCast, Nat.cast_ofNat_Int] at *); (try simp (disch := omega) only [wrap64] at *); (repeat' apply And.intro) <;> first | exact rfl | assumption | omega)
    | (intros; simp_all; done)
    | (intros; simp_all; omega)) : Side φ K := ⟨h, k⟩
inductive HGet : HS → Nat → Res → Prop
  | hit {r : Nat} {x : Res} {s : HS} : HGet ((r, x) :: s) r x
  | miss {q r : Nat} {x y : Res} {s : HS} (h : q ≠ r) (k : HGet s r x) : HGet ((q, y) :: s) r x
theorem HGet.eq {s : HS} {r : Nat} {x : Res} (h : HGet s r x) : hget s r = some x := by
  induction h with
  | hit => exact hget_hit _ _ _
  | miss h _ ih => rw [hget_miss _ _ h, ih]
theorem Look.auto {s : HS} {r : Nat} {x : Res} {K : Res → Prop} (k : K x) (h : HGet s r x) : Look s r K := ⟨x, h.eq, k⟩
/-- A part of a state is taken out. -/
inductive HPick : HS → Nat → Res → HS → Prop
  | hit {r : Nat} {x : Res} {s : HS} : HPick ((r, x) :: s) r x s
  | miss {r : Nat} {x : Res} {y : Nat × Res} {s t : HS} (k : HPick s r x t) : HPick (y :: s) r x (y :: t)
inductive HTake : HS → HS → HS → Prop
  | nil {s : HS} : HTake s [] s
  | cons {s s' t l : HS} {r : Nat} {x : Res} (h : HPick s r x s') (k : HTake s' l t) : HTake s ((r, x) :: l) t
theorem HPick.perm {s t : HS} {r : Nat} {x : Res} (h : HPick s r x t) : ((r, x) :: t).Perm s := by
  induction h with
  | hit => exact .refl _
  | miss _ ih => exact (List.Perm.swap _ _ _).trans (ih.cons _)
theorem HTake.perm {s l t : HS} (h : HTake s l t) : (l ++ t).Perm s := by
  induction h with
  | nil => exact .refl _
  | cons h _ ih => exact (ih.cons _).trans h.perm
theorem HTake.subp {s l t : HS} (h : HTake s l t) : Subp l s := ⟨l ++ t, h.perm, List.sublist_append_left l t⟩
theorem Subp.take {s l : HS} {t : HS} (h : HTake s l t) : Subp l s := h.subp
theorem callT (c : Cx) {f : FuncId} {xs : List HV} {s1 s2 s t : HS} {v : HV} {K E : HV → HS → Prop} (h : HCalls c.P f xs s1 fun e st => e = .ret v ∧ st = s2) (p : HTake s s1 t) (hk : forceL (s2 ++ t) (K v)) : CallWp c f xs s K E :=
  call_ret c t h (List.perm_append_comm.trans p.perm) hk
theorem newN {s : HS} {F : Nat → Prop} (h : ∀ r, r ∉ keys s → F r) : ∀ r, r ∉ keys s → F r := h
theorem Pur.askH {c : Cx} {f : FuncId} {xs : List HV} {x : HV} {on : Prop} {t : HS} {φ : Prop} {K : HV → Prop} (h : on → Pur c f xs x) (hφ : on → φ) (hk : K x) : QAsk on c f xs t φ K := ⟨x, fun h1 => ⟨hφ h1, (h h1).q t⟩, hk⟩
theorem Pur.askCH {c : Cx} {f : FuncId} {xs : List HV} {x : HV} {b : Bool} {t : HS} {φ on off : Prop} {K : HV → Prop} (h : b = true → Pur c f xs x) (hφ : b = true → φ) (hk : K x) : CallC c b f xs t φ K on off := ⟨.inl (Pur.askH h hφ hk)⟩
theorem Sub.auto {t : Nat} {g : Tag} {x y : HV} {a b : Fr} (k : Fr.Sub a b) (h : b.get t = some (g, x) := by rfl) (hy : x = y := by first | rfl | assumption | omega | (simp; done) | (simp; rfl) | (simp; omega)) : Fr.Sub ((t, g, y) :: a) b := Sub.cons h hy k

/-! Comparisons that are decided. -/
section
variable {c : Cx} {n : Nat} {g : Tag} {dst : Option Tmp} {K : Fr → HS → Prop} {Q : HExit → Fr → HS → Prop} {a a' : Fr} {s : HS}
theorem Stp.isDec {p : Prop} [Decidable p] (k : Stp c n g dst K Q (.pure (.v (.bool (decide p)))) a s) : Stp c n g dst K Q (.pure (.v (.bool (decide p)))) a s := k
theorem Stp.isEq {x y : Int} (k : Stp c n g dst K Q (.pure (.v (.bool (x == y)))) a s) : Stp c n g dst K Q (.pure (.v (.bool (x == y)))) a s := k
theorem Stp.isNe {x y : Int} (k : Stp c n g dst K Q (.pure (.v (.bool (x != y)))) a s) : Stp c n g dst K Q (.pure (.v (.bool (x != y)))) a s := k
theorem Stp.decT {p : Prop} [Decidable p] (k : Stp c n g dst K Q (.pure (.v (.bool (true)))) a s) (hp : p := by omega) : Stp c n g dst K Q (.pure (.v (.bool (decide p)))) a s := by rw [decide_eq_true hp]; exact k
theorem Stp.decF {p : Prop} [Decidable p] (k : Stp c n g dst K Q (.pure (.v (.bool (false)))) a s) (hp : ¬ p := by omega) : Stp c n g dst K Q (.pure (.v (.bool (decide p)))) a s := by rw [decide_eq_false hp]; exact k
theorem Stp.eqT {x y : Int} (k : Stp c n g dst K Q (.pure (.v (.bool (true)))) a s) (hp : x = y := by omega) : Stp c n g dst K Q (.pure (.v (.bool (x == y)))) a s := by rw [beq_iff_eq.2 hp]; exact k
theorem Stp.eqF {x y : Int} (k : Stp c n g dst K Q (.pure (.v (.bool (false)))) a s) (hp : ¬ x = y := by omega) : Stp c n g dst K Q (.pure (.v (.bool (x == y)))) a s := by rw [beq_eq_false_iff_ne.2 hp]; exact k
theorem Stp.neT {x y : Int} (k : Stp c n g dst K Q (.pure (.v (.bool (true)))) a s) (hp : ¬ x = y := by omega) : Stp c n g dst K Q (.pure (.v (.bool (x != y)))) a s := by rw [bne_iff_ne.2 hp]; exact k
theorem Stp.neF {x y : Int} (k : Stp c n g dst K Q (.pure (.v (.bool (false)))) a s) (hp : x = y := by omega) : Stp c n g dst K Q (.pure (.v (.bool (x != y)))) a s := by rw [bne_eq_false_iff_eq.2 hp]; exact k
theorem Stp.orF {q : Bool} (k : Stp c n g dst K Q (.pure (.v (.bool (q)))) a s) : Stp c n g dst K Q (.pure (.v (.bool (false || q)))) a s := k
theorem Stp.orT {q : Bool} (k : Stp c n g dst K Q (.pure (.v (.bool (true)))) a s) : Stp c n g dst K Q (.pure (.v (.bool (true || q)))) a s := k
theorem Stp.andT {q : Bool} (k : Stp c n g dst K Q (.pure (.v (.bool (q)))) a s) : Stp c n g dst K Q (.pure (.v (.bool (true && q)))) a s := k
theorem Stp.andF {q : Bool} (k : Stp c n g dst K Q (.pure (.v (.bool (false)))) a s) : Stp c n g dst K Q (.pure (.v (.bool (false && q)))) a s := k
theorem Stp.andT2 {q : Bool} (k : Stp c n g dst K Q (.pure (.v (.bool (q)))) a s) : Stp c n g dst K Q (.pure (.v (.bool (q && true)))) a s := by simpa using k
theorem Stp.orF2 {q : Bool} (k : Stp c n g dst K Q (.pure (.v (.bool (q)))) a s) : Stp c n g dst K Q (.pure (.v (.bool (q || false)))) a s := by simpa using k
theorem Stp.notT (k : Stp c n g dst K Q (.pure (.v (.bool (false)))) a s) : Stp c n g dst K Q (.pure (.v (.bool (!true)))) a s := k
theorem Stp.notF (k : Stp c n g dst K Q (.pure (.v (.bool (true)))) a s) : Stp c n g dst K Q (.pure (.v (.bool (!false)))) a s := k
theorem Stp.isSum {x : Int} (k : Stp c n g dst K Q (.pure (.v (.int .i64 (IntKind.i64.wrap x)))) a s) : Stp c n g dst K Q (.pure (.v (.int .i64 (IntKind.i64.wrap x)))) a s := k
theorem Stp.sum {x : Int} (k : Stp c n g dst K Q (.pure (.v (.int .i64 (x)))) a s) (hw : -9223372036854775808 ≤ x ∧ x < 9223372036854775808 := by omega) : Stp c n g dst K Q (.pure (.v (.int .i64 (IntKind.i64.wrap x)))) a s := by rw [wrap64 hw]; exact k
end
section
variable {c : Cx} {n : Nat} {t : HS} {g : Tag} {dst : Option Tmp} {K : Fr → Prop} {a a' : Fr}
theorem DStp.isDec {p : Prop} [Decidable p] (k : DStp c n t g dst K (.pure (.v (.bool (decide p)))) a) : DStp c n t g dst K (.pure (.v (.bool (decide p)))) a := k
theorem DStp.isEq {x y : Int} (k : DStp c n t g dst K (.pure (.v (.bool (x == y)))) a) : DStp c n t g dst K (.pure (.v (.bool (x == y)))) a := k
theorem DStp.isNe {x y : Int} (k : DStp c n t g dst K (.pure (.v (.bool (x != y)))) a) : DStp c n t g dst K (.pure (.v (.bool (x != y)))) a := k
theorem DStp.decT {p : Prop} [Decidable p] (k : DStp c n t g dst K (.pure (.v (.bool (true)))) a) (hp : p := by omega) : DStp c n t g dst K (.pure (.v (.bool (decide p)))) a := by rw [decide_eq_true hp]; exact k
theorem DStp.decF {p : Prop} [Decidable p] (k : DStp c n t g dst K (.pure (.v (.bool (false)))) a) (hp : ¬ p := by omega) : DStp c n t g dst K (.pure (.v (.bool (decide p)))) a := by rw [decide_eq_false hp]; exact k
theorem DStp.eqT {x y : Int} (k : DStp c n t g dst K (.pure (.v (.bool (true)))) a) (hp : x = y := by omega) : DStp c n t g dst K (.pure (.v (.bool (x == y)))) a := by rw [beq_iff_eq.2 hp]; exact k
theorem DStp.eqF {x y : Int} (k : DStp c n t g dst K (.pure (.v (.bool (false)))) a) (hp : ¬ x = y := by omega) : DStp c n t g dst K (.pure (.v (.bool (x == y)))) a := by rw [beq_eq_false_iff_ne.2 hp]; exact k
theorem DStp.neT {x y : Int} (k : DStp c n t g dst K (.pure (.v (.bool (true)))) a) (hp : ¬ x = y := by omega) : DStp c n t g dst K (.pure (.v (.bool (x != y)))) a := by rw [bne_iff_ne.2 hp]; exact k
theorem DStp.neF {x y : Int} (k : DStp c n t g dst K (.pure (.v (.bool (false)))) a) (hp : x = y := by omega) : DStp c n t g dst K (.pure (.v (.bool (x != y)))) a := by rw [bne_eq_false_iff_eq.2 hp]; exact k
theorem DStp.orF {q : Bool} (k : DStp c n t g dst K (.pure (.v (.bool (q)))) a) : DStp c n t g dst K (.pure (.v (.bool (false || q)))) a := k
theorem DStp.orT {q : Bool} (k : DStp c n t g dst K (.pure (.v (.bool (true)))) a) : DStp c n t g dst K (.pure (.v (.bool (true || q)))) a := k
theorem DStp.andT {q : Bool} (k : DStp c n t g dst K (.pure (.v (.bool (q)))) a) : DStp c n t g dst K (.pure (.v (.bool (true && q)))) a := k
theorem DStp.andF {q : Bool} (k : DStp c n t g dst K (.pure (.v (.bool (false)))) a) : DStp c n t g dst K (.pure (.v (.bool (false && q)))) a := k
theorem DStp.andT2 {q : Bool} (k : DStp c n t g dst K (.pure (.v (.bool (q)))) a) : DStp c n t g dst K (.pure (.v (.bool (q && true)))) a := by simpa using k
theorem DStp.orF2 {q : Bool} (k : DStp c n t g dst K (.pure (.v (.bool (q)))) a) : DStp c n t g dst K (.pure (.v (.bool (q || false)))) a := by simpa using k
theorem DStp.notT (k : DStp c n t g dst K (.pure (.v (.bool (false)))) a) : DStp c n t g dst K (.pure (.v (.bool (!true)))) a := k
theorem DStp.notF (k : DStp c n t g dst K (.pure (.v (.bool (true)))) a) : DStp c n t g dst K (.pure (.v (.bool (!false)))) a := k
theorem DStp.isSum {x : Int} (k : DStp c n t g dst K (.pure (.v (.int .i64 (IntKind.i64.wrap x)))) a) : DStp c n t g dst K (.pure (.v (.int .i64 (IntKind.i64.wrap x)))) a := k
theorem DStp.sum {x : Int} (k : DStp c n t g dst K (.pure (.v (.int .i64 (x)))) a) (hw : -9223372036854775808 ≤ x ∧ x < 9223372036854775808 := by omega) : DStp c n t g dst K (.pure (.v (.int .i64 (IntKind.i64.wrap x)))) a := by rw [wrap64 hw]; exact k
end

theorem Stp.valS {c : Cx} {n : Nat} {dst : Option Tmp} {K : Fr → HS → Prop} {Q : HExit → Fr → HS → Prop} {a : Fr} {s : HS} {φ : Prop} {x : HV} (h : Side φ (Stp c n .sure dst K Q (.pure x) a s)) : Stp c n .sure dst K Q (.val φ x) a s := ⟨⟨h.1, h.2.out⟩⟩
theorem Stp.valSC {c : Cx} {n : Nat} {b : Bool} {dst : Option Tmp} {K : Fr → HS → Prop} {Q : HExit → Fr → HS → Prop} {a : Fr} {s : HS} {φ : Prop} {x : HV} (h : Side (b = true → φ) (Stp c n (.cond b) dst K Q (.pure x) a s)) : Stp c n (.cond b) dst K Q (.val φ x) a s := ⟨⟨h.1, h.2.out⟩⟩
theorem DStp.valS {c : Cx} {n : Nat} {t : HS} {dst : Option Tmp} {K : Fr → Prop} {a : Fr} {φ : Prop} {x : HV} (h : Side φ (DStp c n t .sure dst K (.pure x) a)) : DStp c n t .sure dst K (.val φ x) a := ⟨⟨h.1, h.2.out⟩⟩
theorem DStp.valSC {c : Cx} {n : Nat} {t : HS} {b : Bool} {dst : Option Tmp} {K : Fr → Prop} {a : Fr} {φ : Prop} {x : HV} (h : Side (b = true → φ) (DStp c n t (.cond b) dst K (.pure x) a)) : DStp c n t (.cond b) dst K (.val φ x) a := ⟨⟨h.1, h.2.out⟩⟩
/-! An operation by its tag. -/
structure OpsT (c : Cx) (n : Nat) (all : Array Oper) (o : Oper) (l : List Oper) (Q : HExit → Fr → HS → Prop) (tg : Tag) (a : Fr) (s : HS) : Prop where
  out : active all a o = some tg → Ops c n all (o :: l) Q a s
section
variable {c : Cx} {n : Nat} {all : Array Oper} {o : Oper} {l : List Oper} {Q : HExit → Fr → HS → Prop} {a : Fr} {s : HS}
theorem Ops.tag {tg : Tag} (hact : active all a o = some tg) (h : OpsT c n all o l Q tg a s) : Ops c n all (o :: l) Q a s := h.out hact
theorem OpsT.go {tg : Tag} (h : Stp c n tg o.dst (fun a' s' => Ops c n all l Q a' s') Q (hop c o.op a s) a s) : OpsT c n all o l Q tg a s := ⟨fun hact => Ops.cons hact h⟩
theorem OpsT.yes (h : Stp c n .sure o.dst (fun a' s' => Ops c n all l Q a' s') Q (hop c o.op a s) a s) : OpsT c n all o l Q (.cond true) a s := by
  refine ⟨fun hact => ⟨fun s0 G0 w0 h0 k hk G w ra hp hf => ?_⟩⟩
  have hko : all[k]? = some o := by
    have : (all.toList.drop k)[0]? = some o := by rw [hk]; rfl
    rw [List.getElem?_drop] at this
    simpa using this
  have hrest : all.toList.drop (k + 1) = l := by rw [← List.drop_drop, hk]; rfl
  simp only [List.length_cons, List.range'_succ, wpOps, hko]
  have next : ∀ {g : Tag} {x : HV} {s' : HS} {G' : Ghost} {w' : World} {u : Value}, Post s G w s' G' w' → tagRel G' g x u → PutK n o.dst g (fun a' s' => Ops c n all l Q a' s') a x s' → wpOps c.P all (Lift n s0 G0 w0 Q) (List.range' (k + 1) l.length) (ra.put o.dst u) w' := by
    intro g x s' G' w' u hp' hu ⟨a', ha, hm⟩
    exact hm.out s0 G0 w0 h0 (k + 1) hrest G' w' _ (hp.trans h0 hp') ((hf.mono hp'.ext.le).put ha hu)
  have hsem := hop_ok c hp.srel hf o
  have called : ∀ {f : FuncId} {xs : List HV} {vs : Array Value}, (execOp ra.eval o).run c.P w = .ok (.enter f vs) w → relVs G xs vs.toList → CallWp c f xs s (fun x s' => PutK n o.dst .sure (fun a' s' => Ops c n all l Q a' s') a x s') (fun x s' => Q (.pan x) a s') → o.wp c.P ra w (wpOps c.P all (Lift n s0 G0 w0 Q) (List.range' (k + 1) l.length)) (Lift n s0 G0 w0 Q) := by
    intro f xs vs hr hx hc
    unfold Oper.wp
    rw [hr, Oper.upon_enter]
    refine (hc.out.out G w vs hp.srel hx).mono fun e w' ⟨he, s', G', hR, hrel, hp'⟩ => ?_
    cases he with
    | ret x =>
      cases e <;> first | exact hrel.elim | skip
      exact next (g := .sure) hp' hrel hR
    | pan x =>
      cases e <;> first | exact hrel.elim | skip
      exact ⟨.pan x, a, s', G', hR, hrel, hf.mono hp'.ext.le, hp.trans h0 hp'⟩
  have h := h.out
  have hw := active_ok hf hact
  simp only [] at hw h
  rw [hw]
  simp only [if_true]
  refine .inl ?_
  generalize hop c o.op a s = q at h hsem
  induction q with
  | bad => exact h.elim
  | pure x =>
    obtain ⟨u, w', G', hy, hr, hp'⟩ := hsem
    exact upon_gives hy (next (g := .sure) hp' hr h)
  | val φ x =>
    obtain ⟨hφ, h⟩ := h
    obtain ⟨u, w', G', hy, hr, hp'⟩ := hsem hφ
    exact upon_gives hy (next (g := .sure) hp' hr h)
  | call φ f xs =>
    obtain ⟨hφ, h⟩ := h
    obtain ⟨vs, hr, hx⟩ := hsem hφ
    exact called hr hx h
  | pan φ x =>
    obtain ⟨hφ, h⟩ := h
    obtain ⟨u, hr, hu⟩ := hsem hφ
    unfold Oper.wp
    rw [hr, Oper.upon_panic]
    exact ⟨.pan _, a, s, G, h, ⟨u, rfl, hu⟩, hf, hp⟩
  | eff W =>
    obtain ⟨x, s', hK, u, w', G', hy, hr, hp'⟩ := hsem _ h
    exact upon_gives hy (next (g := .sure) hp' hr hK)
  | look r k ihq =>
    obtain ⟨x, hx, h⟩ := h
    exact ihq x h (hsem x hx)
theorem OpsT.no (k : PutK n o.dst (.cond false) (fun a' s' => Ops c n all l Q a' s') a (.v (.bool false)) s) : OpsT c n all o l Q (.cond false) a s := by
  obtain ⟨a', h, k⟩ := k
  refine ⟨fun hact => ⟨fun s0 G0 w0 h0 i hk G w ra hp hf => ?_⟩⟩
  have hko : all[i]? = some o := by
    have : (all.toList.drop i)[0]? = some o := by rw [hk]; rfl
    rw [List.getElem?_drop] at this
    simpa using this
  have hrest : all.toList.drop (i + 1) = l := by rw [← List.drop_drop, hk]; rfl
  simp only [List.length_cons, List.range'_succ, wpOps, hko]
  have hw := active_ok hf hact
  simp only [] at hw
  rw [hw]
  exact k.out s0 G0 w0 h0 (i + 1) hrest G w _ hp (hf.put h ⟨(fun e => by cases e), fun _ => rfl⟩)
theorem OpsT.yes' (h : Stp c n .sure o.dst (fun a' s' => Ops c n all l Q a' s') Q (hop c o.op a s) a s) : OpsT c n all o l Q (.cond (!false)) a s := OpsT.yes h
theorem OpsT.no' (k : PutK n o.dst (.cond false) (fun a' s' => Ops c n all l Q a' s') a (.v (.bool false)) s) : OpsT c n all o l Q (.cond (!true)) a s := OpsT.no k
theorem OpsT.andT {b : Bool} (h : OpsT c n all o l Q (.cond b) a s) : OpsT c n all o l Q (.cond (true && b)) a s := h
theorem OpsT.andF {b : Bool} (h : OpsT c n all o l Q (.cond false) a s) : OpsT c n all o l Q (.cond (false && b)) a s := h
theorem PutK.isSet {n : Nat} {dst : Option Tmp} {g : Tag} {K : Fr → HS → Prop} {a : Fr} {x : HV} {s : HS} {r : Nat} {y : Res} (k : PutK n dst g K a x (hset s r y)) : PutK n dst g K a x (hset s r y) := k
theorem OpsT.id {tg : Tag} (h : OpsT c n all o l Q tg a s) : OpsT c n all o l Q tg a s := h
end
end Go.Proofs.Hk

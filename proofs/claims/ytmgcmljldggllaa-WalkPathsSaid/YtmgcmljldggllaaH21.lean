import Derived.Test.YtmgcmljldggllaaH20
set_option linter.unusedSimpArgs false
set_option linter.unusedVariables false
namespace Go.Proofs.Hk
open Go

/-! Drawn regions by small rules. -/
structure DOps (c : Cx) (n : Nat) (all : Array Oper) (t : HS) (E : List Nat) (Q : HExit → Fr → HS → Prop) (l : List Oper) (k : Nat) (a : Fr) (m : HS) : Prop where
  out : drawWp c n all t E Q l k a m
/-- What goes on behind. -/
structure PutD (n : Nat) (dst : Option Tmp) (g : Tag) (K : Fr → Prop) (a : Fr) (x : HV) : Prop where
  out : ∃ a', hput n dst g x a = some a' ∧ K a'
structure DStp (c : Cx) (n : Nat) (t : HS) (g : Tag) (dst : Option Tmp) (K : Fr → Prop) (q : OpRes) (a : Fr) : Prop where
  out : q.quiet c t g fun x => PutD n dst g K a x
structure TStp (c : Cx) (n : Nat) (m t : HS) (dst : Option Tmp) (K : Fr → HS → Prop) (q : OpRes) (a : Fr) : Prop where
  out : q.turns c m t fun x m' => PutD n dst .sure (fun a' => K a' m') a x

theorem quiet_mono {c : Cx} {t : HS} {g : Tag} {K K' : HV → Prop} (h : ∀ x, K x → K' x) : ∀ {q : OpRes}, q.quiet c t g K → q.quiet c t g K'
  | .bad, k => k
  | .pure x, k => h x k
  | .val φ x, k => by
    cases g with
    | sure => exact ⟨k.1, h x k.2⟩
    | cond b => exact ⟨k.1, h x k.2⟩
  | .call φ f xs, k => by
    cases g with
    | sure => obtain ⟨x, h1, h2⟩ := k; exact ⟨x, h1, h x h2⟩
    | cond b => obtain ⟨x, h1, h2⟩ := k; exact ⟨x, h1, h x h2⟩
  | .pan φ x, k => k
  | .eff W, k => k
  | .look r q, k => by obtain ⟨x, h1, h2⟩ := k; exact ⟨x, h1, quiet_mono h h2⟩
theorem turns_mono {c : Cx} {m t : HS} {K K' : HV → HS → Prop} (h : ∀ x m, K x m → K' x m) : ∀ {q : OpRes}, q.turns c m t K → q.turns c m t K'
  | .bad, k => k
  | .pure x, k => h x m k
  | .val φ x, k => ⟨k.1, h x m k.2⟩
  | .call φ f xs, k => by obtain ⟨x, m', h1, h2⟩ := k; exact ⟨x, m', h1, h x m' h2⟩
  | .pan φ x, k => k
  | .eff W, k => by obtain ⟨x, m', h1, h2⟩ := k; exact ⟨x, m', h1, h x m' h2⟩
  | .look r q, k => by obtain ⟨x, h1, h2⟩ := k; exact ⟨x, h1, turns_mono h h2⟩
theorem DOps.nil {c : Cx} {n : Nat} {all : Array Oper} {t s : HS} {E : List Nat} {Q : HExit → Fr → HS → Prop} {k : Nat} {a : Fr} {m : HS} (e : m ++ t = s) (h : Q .normal a s) : DOps c n all t E Q [] k a m :=
  ⟨by simp only [drawWp, forceL_eq, e]; exact h⟩
/-! What an operation does not look at does not matter. -/
theorem ev_only {S : List Tmp} {a : Fr} {x : Operand} (h : ∀ t, x = .tmp t → memN t S = true) : ev (Fr.only S a) x = ev a x := by
  cases x with
  | tmp t => simp only [ev, only_get]; rw [if_pos (h t rfl)]
  | _ => rfl
theorem arg_only {S : List Tmp} {a : Fr} {x : Operand} {k : HV → OpRes} (h : ∀ t, x = .tmp t → memN t S = true) : arg (Fr.only S a) x k = arg a x k := by
  simp only [arg, ev_only h]
theorem argsM_only {S : List Tmp} {a : Fr} : ∀ {xs : List Operand} {k : List HV → OpRes}, (∀ x ∈ xs, ∀ t, x = .tmp t → memN t S = true) → argsM (Fr.only S a) xs k = argsM a xs k
  | [], k, _ => rfl
  | x :: xs, k, h => by
    simp only [argsM]
    rw [arg_only (h x (by simp))]
    congr 1
    funext v
    exact argsM_only fun y hy => h y (by simp [hy])
theorem argO_only {S : List Tmp} {a : Fr} {x : Option Operand} {k : Option HV → OpRes} (h : ∀ y, x = some y → ∀ t, y = .tmp t → memN t S = true) : argO (Fr.only S a) x k = argO a x k := by
  cases x with
  | none => rfl
  | some x => exact arg_only (h x rfl)
theorem hop_only (c : Cx) {S : List Tmp} {a : Fr} {s : HS} {o : Op} (h : ∀ x ∈ o.operands, ∀ t, x = .tmp t → memN t S = true) : hop c o (Fr.only S a) s = hop c o a s := by
  cases o <;> simp only [Op.operands, Call.operands] at h <;> simp only [hop]
  case call d =>
    obtain ⟨cal, args, ts⟩ := d
    cases cal <;> simp only [hop, Op.operands, Call.operands] at h ⊢
    case value f =>
      rw [arg_only (h f (by simp))]
      congr 1; funext v
      exact argsM_only fun y hy => h y (by simp at hy; simp [hy])
    case builtin b => exact argsM_only fun y hy => h y (by simp at hy; simp [hy])
  case pick x y z =>
    rw [arg_only (h x (by simp)), ev_only (h y (by simp)), ev_only (h z (by simp))]
  case build t ps => exact argsM_only fun y hy => h y (by simpa using hy)
  case buildSlice t n ps => exact argsM_only fun y hy => h y (by simpa using hy)
  case slice t x lo hi mx =>
    rw [arg_only (h x (by simp))]
    congr 1; funext v
    rw [argO_only fun y hy => h y (by subst hy; simp)]
    congr 1; funext v
    rw [argO_only fun y hy => h y (by subst hy; simp)]
    congr 1; funext v
    rw [argO_only fun y hy => h y (by subst hy; simp)]
  case makeSlice t x y =>
    rw [arg_only (h x (by simp))]; congr 1; funext v; exact arg_only (h y (by simp))
  case makeFunc f fi ca =>
    rw [argsM_only fun y hy => h y (by simp at hy; simp [hy])]
    congr 1; funext v
    exact argsM_only fun y hy => h y (by simp at hy; simp [hy])
  all_goals first
    | rfl
    | exact arg_only (h _ (by simp))
    | (rw [arg_only (h _ (by simp))]; congr 1; funext v; exact arg_only (h _ (by simp)))
    | skip
theorem looksAt_op {ops : Array Oper} {o : Oper} : ∀ x ∈ o.op.operands, ∀ t, x = Operand.tmp t → memN t (o.looksAt ops) = true := by
  intro x hx t ht
  subst ht
  rw [memN_iff]
  unfold Oper.looksAt
  refine List.mem_append_left _ (List.mem_filterMap.2 ⟨_, by simpa using hx, rfl⟩)
theorem active_only {all : Array Oper} {a : Fr} {o : Oper} : active all (Fr.only (o.looksAt all) a) o = active all a o := by
  unfold active
  split
  · rfl
  · rename_i j want hg
    split
    · rfl
    · rename_i oj hj
      split
      · rfl
      · rename_i d hd
        rw [only_get, if_pos]
        rw [memN_iff]
        unfold Oper.looksAt
        refine List.mem_append_right _ ?_
        rw [hg]
        simp [hj, hd]
theorem DOps.cons {c : Cx} {n : Nat} {all : Array Oper} {t : HS} {E : List Nat} {Q : HExit → Fr → HS → Prop} {o : Oper} {l : List Oper} {k : Nat} {a : Fr} {m : HS} {tg : Tag} (hact : active all a o = some tg) (hE : memN k E = false)
    (h : DStp c n t tg o.dst (fun a' => DOps c n all t E Q l (k + 1) a' m) (hop c o.op a t) a) : DOps c n all t E Q (o :: l) k a m := by
  constructor
  simp only [drawWp, active_only, hact, hE, hop_only c looksAt_op]
  refine quiet_mono (fun x hx => ?_) h.out
  obtain ⟨a', e, hk⟩ := hx
  rw [e]
  exact hk.out
theorem DOps.turn {c : Cx} {n : Nat} {all : Array Oper} {t s : HS} {E : List Nat} {Q : HExit → Fr → HS → Prop} {o : Oper} {l : List Oper} {k : Nat} {a : Fr} {m : HS} (hact : active all a o = some .sure) (hE : memN k E = true) (e : m ++ t = s)
    (h : TStp c n m t o.dst (fun a' m' => DOps c n all t E Q l (k + 1) a' m') (hop c o.op a s) a) : DOps c n all t E Q (o :: l) k a m := by
  subst e
  constructor
  simp only [drawWp, active_only, hact, hE, hop_only c looksAt_op]
  refine .inl (turns_mono (fun x m' hx => ?_) h.out)
  obtain ⟨a', e, hk⟩ := hx
  rw [e]
  exact hk.out
/-- An alloc, by a name that was kept free. -/
theorem DOps.alloc {c : Cx} {n : Nat} {all : Array Oper} {t : HS} {E : List Nat} {Q : HExit → Fr → HS → Prop} {o : Oper} {l : List Oper} {k r : Nat} {a a' : Fr} {m0 : HS} {tt : TypeId} {z : HV} {zs : List HV} (hact : active all a o = some .sure) (hE : memN k E = true) (ho : o.op = .alloc tt)
    (hz : hzero c tt = some z) (hk : kdOk z = true) (hs : z.cells = zs) (hp : hput n o.dst .sure (.ptr r 0) a = some a') (h : DOps c n all t E Q l (k + 1) a' ((r, .cells zs tt) :: m0)) : DOps c n all t E Q (o :: l) k a ((r, .void) :: m0) := by
  subst hs
  constructor
  simp only [drawWp, active_only, hact, hE]
  exact .inr ⟨tt, z, r, m0, a', ho, hz, hk, rfl, hp, h.out⟩
theorem drawQ' (c : Cx) {n id : Nat} {ops : Array Oper} {l : List Oper} {Q : HExit → Fr → HS → Prop} {a : Fr} {s : HS} (hB : lexEB ops [] = true) (e : ops.toList = l) (h : DOps c n ops s [] Q l 0 a []) : DrawReg c.P n id ops Q a s :=
  drawQ c hB (by rw [e]; exact h.out)
theorem drawE' (c : Cx) {n id : Nat} {ops : Array Oper} {l : List Oper} {Q : HExit → Fr → HS → Prop} {a : Fr} {s : HS} (m t : HS) (E : List Nat) (hp : (m ++ t).Perm s) (hB : lexEB ops E = true) (e : ops.toList = l) (h : DOps c n ops t E Q l 0 a m) : DrawReg c.P n id ops Q a s :=
  drawReg c m t E hp hB (by rw [e]; exact h.out)
section
variable {c : Cx} {n : Nat} {t : HS} {g : Tag} {dst : Option Tmp} {K : Fr → Prop} {a a' : Fr}
theorem DStp.pure {x : HV} (h : hput n dst g x a = some a') (k : K a') : DStp c n t g dst K (.pure x) a := ⟨⟨a', h, k⟩⟩
theorem DStp.val {φ : Prop} {x : HV} (h : hput n dst .sure x a = some a') (k : Side φ (K a')) : DStp c n t .sure dst K (.val φ x) a := ⟨⟨k.1, a', h, k.2⟩⟩
theorem DStp.valC {b : Bool} {φ : Prop} {x : HV} (h : hput n dst (.cond b) x a = some a') (k : Side (b = true → φ) (K a')) : DStp c n t (.cond b) dst K (.val φ x) a := ⟨⟨k.1, a', h, k.2⟩⟩
theorem DStp.call {φ : Prop} {f : FuncId} {xs : List HV} (k : QAsk True c f xs t φ (fun x => PutD n dst .sure K a x)) : DStp c n t .sure dst K (.call φ f xs) a := ⟨k⟩
theorem DStp.callC {b : Bool} {φ : Prop} {f : FuncId} {xs : List HV} (k : QAsk (b = true) c f xs t φ (fun x => PutD n dst (.cond b) K a x)) : DStp c n t (.cond b) dst K (.call φ f xs) a := ⟨k⟩
theorem DStp.look {r : Nat} {k : Res → OpRes} (h : Look t r fun x => DStp c n t g dst K (k x) a) : DStp c n t g dst K (.look r k) a := by
  obtain ⟨x, hx, h⟩ := h
  exact ⟨⟨x, hx, h.out⟩⟩
theorem PutD.mk' {x : HV} (h : hput n dst g x a = some a') (k : K a') : PutD n dst g K a x := ⟨a', h, k⟩
end
section
variable {c : Cx} {n : Nat} {m t : HS} {dst : Option Tmp} {K : Fr → HS → Prop} {a : Fr}
theorem TStp.look {r : Nat} {k : Res → OpRes} (h : Look (m ++ t) r fun x => TStp c n m t dst K (k x) a) : TStp c n m t dst K (.look r k) a := by
  obtain ⟨x, hx, h⟩ := h
  exact ⟨⟨x, hx, h.out⟩⟩
theorem TStp.pure {x : HV} (k : PutD n dst .sure (fun a' => K a' m) a x) : TStp c n m t dst K (.pure x) a := ⟨k⟩
theorem TStp.val {φ : Prop} {x : HV} (k : Side φ (PutD n dst .sure (fun a' => K a' m) a x)) : TStp c n m t dst K (.val φ x) a := ⟨k⟩
theorem TStp.eff {W : (HV → HS → Prop) → Prop} {x : HV} (m' : HS) (hW : W fun y s' => y = x ∧ s' = m' ++ t) (k : PutD n dst .sure (fun a' => K a' m') a x) : TStp c n m t dst K (.eff W) a := ⟨⟨x, m', hW, k⟩⟩
theorem TStp.call {φ : Prop} {f : FuncId} {xs : List HV} {x : HV} (m' : HS) (hφ : φ) (h : HCalls c.P f xs (m ++ t) fun e s1 => e = .ret x ∧ s1 = m' ++ t) (k : PutD n dst .sure (fun a' => K a' m') a x) : TStp c n m t dst K (.call φ f xs) a := ⟨⟨x, m', ⟨hφ, ⟨h⟩⟩, k⟩⟩
end

/-! Sums that stay within bounds. -/
theorem Stp.pureW {c : Cx} {n : Nat} {g : Tag} {dst : Option Tmp} {K : Fr → HS → Prop} {Q : HExit → Fr → HS → Prop} {a a' : Fr} {s : HS} {x y : Int} (hw : IntKind.i64.wrap x = y) (h : hput n dst g (.v (.int .i64 y)) a = some a') (k : K a' s) : Stp c n g dst K Q (.pure (.v (.int .i64 (IntKind.i64.wrap x)))) a s := by
  subst hw; exact Stp.pure h k
theorem DStp.pureW {c : Cx} {n : Nat} {t : HS} {g : Tag} {dst : Option Tmp} {K : Fr → Prop} {a a' : Fr} {x y : Int} (hw : IntKind.i64.wrap x = y) (h : hput n dst g (.v (.int .i64 y)) a = some a') (k : K a') : DStp c n t g dst K (.pure (.v (.int .i64 (IntKind.i64.wrap x)))) a := by
  subst hw; exact DStp.pure h k

theorem DOps.id {c : Cx} {n : Nat} {all : Array Oper} {t : HS} {E : List Nat} {Q : HExit → Fr → HS → Prop} {l : List Oper} {k : Nat} {a : Fr} {m : HS} (h : DOps c n all t E Q l k a m) : DOps c n all t E Q l k a m := h
theorem DStp.id {c : Cx} {n : Nat} {t : HS} {g : Tag} {dst : Option Tmp} {K : Fr → Prop} {q : OpRes} {a : Fr} (h : DStp c n t g dst K q a) : DStp c n t g dst K q a := h
theorem TStp.id {c : Cx} {n : Nat} {m t : HS} {dst : Option Tmp} {K : Fr → HS → Prop} {q : OpRes} {a : Fr} (h : TStp c n m t dst K q a) : TStp c n m t dst K q a := h
theorem PutD.id {n : Nat} {dst : Option Tmp} {g : Tag} {K : Fr → Prop} {a : Fr} {x : HV} (h : PutD n dst g K a x) : PutD n dst g K a x := h
theorem DrawReg.id {P : Program} {n id : Nat} {ops : Array Oper} {Q : HExit → Fr → HS → Prop} {a : Fr} {s : HS} (h : DrawReg P n id ops Q a s) : DrawReg P n id ops Q a s := h

/-! Names that come. -/
structure NewN (s : HS) (F : Nat → Prop) : Prop where
  out : ∀ r, r ∉ keys s → F r

/-! Contracts, with what is left lying. -/
theorem Pur.of {c : Cx} {f : FuncId} {xs : List HV} {x : HV} (h : HCalls c.P f xs [] fun e _ => e = .ret x) : Pur c f xs x :=
  ⟨HCalls.weaken h fun e s1 he => ⟨e, [], (by subst he; exact .ret (.refl _)), Subp.nil _, he, rfl⟩⟩
theorem Pur.ofW {c : Cx} {f : FuncId} {xs : List HV} {x : HV} (h : HCalls c.P f xs [] fun e _ => ∃ y, e = .ret y ∧ Weaker y x) : Pur c f xs x :=
  ⟨HCalls.weaken h fun e s1 ⟨y, he, hw⟩ => ⟨.ret x, [], (by subst he; exact .ret hw), Subp.nil _, rfl, rfl⟩⟩
theorem HCalls.less {P : Program} {f : FuncId} {args : List HV} {s s2 : HS} {x : HV} (h : HCalls P f args s fun e st => e = .ret x ∧ Subp s2 st) : HCalls P f args s fun e st => e = .ret x ∧ st = s2 :=
  HCalls.weaken h fun e s1 ⟨he, hs⟩ => ⟨e, s2, (by subst he; exact .ret (.refl _)), hs, he, rfl⟩
theorem HCalls.lessW {P : Program} {f : FuncId} {args : List HV} {s s2 : HS} {x : HV} (h : HCalls P f args s fun e st => ∃ y, e = .ret y ∧ Weaker y x ∧ Subp s2 st) : HCalls P f args s fun e st => e = .ret x ∧ st = s2 :=
  HCalls.weaken h fun e s1 ⟨y, he, hw, hs⟩ => ⟨.ret x, s2, (by subst he; exact .ret hw), hs, rfl, rfl⟩
end Go.Proofs.Hk

import Derived.Laws.StructEq
import Derived.Calls
import Derived.Laws.Sem
import Derived.Laws.Cells
import Derived.Laws.Entries
import Derived.ChangeKeysEq
import Derived.Laws.Cover3
import Derived.Test.YtmgcmljldggllaaH3
set_option linter.unusedSimpArgs false
set_option linter.unusedVariables false
namespace Go.Proofs.Hk
open Go

/-! What an operation's answer says of the machine. -/
def Yields (r : Result Next) (u : Value) (w' : World) : Prop := r = .ok (.value u) w' ∨ (r = .ok .skip w' ∧ u = undef)

def Gives (s : HS) (G : Ghost) (w : World) (r : Result Next) (x : HV) (s' : HS) : Prop :=
  ∃ u w' G', Yields r u w' ∧ rel G' x u ∧ Post s G w s' G' w'

def ResOK (P : Program) (s : HS) (G : Ghost) (w : World) (r : Result Next) : OpRes → Prop
  | .bad => True
  | .pure x => Gives s G w r x s
  | .val φ x => φ → Gives s G w r x s
  | .call φ f xs => φ → ∃ vs : Array Value, r = .ok (.enter f vs) w ∧ relVs G xs vs.toList
  | .pan φ x => φ → ∃ u, r = .halt (.panic u) w ∧ rel G x u
  | .eff W => ∀ K, W K → ∃ x s', K x s' ∧ Gives s G w r x s'
  | .look q k => ∀ x, hget s q = some x → ResOK P s G w r (k x)

theorem ResOK.need {P : Program} {s : HS} {G : Ghost} {w : World} {r : Result Next} {φ : Prop} {q : OpRes} (h : φ → ResOK P s G w r q) : ResOK P s G w r (q.need φ) := by
  induction q with
  | bad => trivial
  | pure x => exact h
  | val ψ x => exact fun k => h k.1 k.2
  | call ψ f xs => exact fun k => h k.1 k.2
  | pan ψ x => exact fun k => h k.1 k.2
  | eff W => exact fun K hK => h hK.1 K hK.2
  | look q k ih => exact fun x hx => ih x fun hφ => h hφ x hx

theorem rel_v (G : Ghost) {x : Value} (h : vkd x = .one := by rfl) : rel G (.v x) x := by
  refine ⟨h.symm, ?_⟩
  simp only [relC]
  refine ⟨?_, h⟩
  cases x <;> first | rfl | cases h
theorem relCs_map_v (G : Ghost) : ∀ (cs : List Value), (∀ u ∈ cs, vkd u = .one) → relCs G (cs.map .v) cs
  | [], _ => by simp [relCs]
  | u :: us, h => by
    simp only [List.map_cons, relCs]
    refine ⟨u, us, rfl, ⟨rfl, ?_⟩, relCs_map_v G us fun v hv => h v (by simp [hv])⟩
    simp only [relC]
    exact ⟨trivial, h u (by simp)⟩

theorem ev_ok {G : Ghost} {n : Nat} {a : Fr} {ra : Act} (hf : FRel G n a ra) {x : Operand} {g : Tag} {v : HV} (h : ev a x = some (g, v)) : tagRel G g v (ra.eval x) := by
  cases x with
  | tmp t => exact (hf.slots t g v h).2
  | const u =>
    cases u <;> simp only [ev, Option.some.injEq, Prod.mk.injEq, reduceCtorEq] at h <;> (obtain ⟨rfl, rfl⟩ := h; exact rel_v G)
  | func f =>
    simp only [ev, Option.some.injEq, Prod.mk.injEq] at h
    obtain ⟨rfl, rfl⟩ := h
    refine ⟨rfl, ?_⟩
    simp only [relC, Act.eval, Value.cells]
    exact ⟨#[], #[], rfl, by simp [relVs], by simp [relVs]⟩
  | global g => simp [ev] at h

theorem arg_ok {P : Program} {s : HS} {G : Ghost} {w : World} {n : Nat} {a : Fr} {ra : Act} (hf : FRel G n a ra) {r : Result Next} {x : Operand} {k : HV → OpRes}
    (h : ∀ v, rel G v (ra.eval x) → ResOK P s G w r (k v)) : ResOK P s G w r (arg a x k) := by
  unfold arg
  split
  · trivial
  · rename_i v e; exact h v (ev_ok hf e)
  · rename_i b v e; exact ResOK.need fun hb => h v ((ev_ok hf e).1 hb)
theorem argsM_ok {P : Program} {s : HS} {G : Ghost} {w : World} {n : Nat} {a : Fr} {ra : Act} (hf : FRel G n a ra) {r : Result Next} : ∀ {xs : List Operand} {k : List HV → OpRes},
    (∀ vs, relVs G vs (xs.map ra.eval) → ResOK P s G w r (k vs)) → ResOK P s G w r (argsM a xs k)
  | [], k, h => h [] (by simp [relVs])
  | x :: xs, k, h => arg_ok hf fun v hv => argsM_ok hf fun vs hvs => h (v :: vs) (by rw [relVs_cons]; exact ⟨_, _, rfl, hv, hvs⟩)
theorem argO_ok {P : Program} {s : HS} {G : Ghost} {w : World} {n : Nat} {a : Fr} {ra : Act} (hf : FRel G n a ra) {r : Result Next} {x : Option Operand} {k : Option HV → OpRes}
    (h : ∀ v, (match v, x.map ra.eval with | none, none => True | some v, some u => rel G v u | _, _ => False) → ResOK P s G w r (k v)) : ResOK P s G w r (argO a x k) := by
  cases x with
  | none => exact h none trivial
  | some x => exact arg_ok hf fun v hv => h (some v) hv

theorem gives_pure {s : HS} {G : Ghost} {w : World} {x : HV} {u : Value} (hs : SRel G s w) (h : rel G x u) : Gives s G w (.ok (.value u) w) x s := ⟨u, w, G, .inl rfl, h, .refl hs⟩
theorem ResOK.gives {P : Program} {s : HS} {G : Ghost} {w : World} {r : Result Next} {x : HV} {φ : Prop} (h : φ → Gives s G w r x s) : ResOK P s G w r (.val φ x) := h

theorem vkd_one {u : Value} (h : vkd u = .one) : u.cells.toList = [u] := by cases u <;> first | rfl | cases h
theorem vkd_oneCell {u : Value} (h : vkd u = .one) : u.oneCell' = true := by cases u <;> first | rfl | cases h
theorem leaf_of {G : Ghost} {x : HV} {u : Value} (h : rel G x u) (hx : x.kd = .one) : relC G x [u] ∧ vkd u = .one := by
  obtain ⟨h1, h2⟩ := h
  have hu : vkd u = .one := by rw [← h1, hx]
  rw [vkd_one hu] at h2
  exact ⟨h2, hu⟩
theorem relC_one {G : Ghost} {x : HV} {cs : List Value} (h : relC G x cs) (hx : x.kd = .one) : ∃ u, cs = [u] ∧ vkd u = .one := by
  cases x <;> simp only [relC] at h <;> first | cases hx | skip
  · exact ⟨_, h⟩
  · rcases h with ⟨_, e, _⟩ | ⟨b, o, c, e, _⟩ | ⟨_, _, a, e⟩ <;> exact ⟨_, e, rfl⟩
  · obtain ⟨b, _, e⟩ := h; exact ⟨_, e, rfl⟩
  · obtain ⟨b, o, xs, e, _⟩ := h; exact ⟨_, e, rfl⟩
  · obtain ⟨a, b, e, _⟩ := h; exact ⟨_, e, rfl⟩
  · obtain ⟨b, _, e⟩ := h; exact ⟨_, e, rfl⟩
  · obtain ⟨b, _, e⟩ := h; exact ⟨_, e, rfl⟩
  · obtain ⟨u, e, _⟩ := h; exact ⟨_, e, rfl⟩
theorem rel_leaf {G : Ghost} {x : HV} {u : Value} (h : relC G x [u]) (hx : x.kd = .one) : rel G x u := by
  obtain ⟨u', e, hu⟩ := relC_one h hx
  simp only [List.cons.injEq, and_true] at e
  subst e
  exact ⟨by rw [hx, hu], by rw [vkd_one hu]; exact h⟩
theorem rel_v_eq {G : Ghost} {x u : Value} (h : rel G (.v x) u) : u = x := by
  obtain ⟨h1, h2⟩ := leaf_of h rfl
  simp only [relC] at h1
  simpa using h1.1

theorem rel_int {G : Ghost} {k : IntKind} {n : Int} {u : Value} (h : rel G (.v (.int k n)) u) : u = .int k n := rel_v_eq h
theorem rel_bool {G : Ghost} {b : Bool} {u : Value} (h : rel G (.v (.bool b)) u) : u = .bool b := rel_v_eq h

section
variable (c : Cx) (s : HS) (G : Ghost) (w : World)

theorem rel_agg_inv4 {G : Ghost} {l : List HV} {u : Value} (h : rel G (.agg l) u) : ∃ us : Array Value, u = .agg us ∧ relCs G l us.toList := by
  obtain ⟨h1, h2⟩ := h
  cases u <;> first | cases h1 | skip
  rename_i cs
  exact ⟨cs, rfl, by simpa [relC, Value.cells] using h2⟩

theorem binOp_ok (hs : SRel G s w) (op : BinOp) (t : TypeId) (xo yo : Operand) (x y : HV) (u v : Value) (hx : rel G x u) (hy : rel G y v) :
    ResOK c.P s G w ((do pure (Next.value (← (do eqGuard op t xo yo u v; binOp op t u v))) : Sem Next).run c.P w) (hbin op x y) := by
  unfold hbin
  split
  · rename_i k a k' b
    have hu := rel_v_eq hx
    have hv := rel_v_eq hy
    subst hu hv
    split
    · intro hb
      have e : ¬ b < 0 := by omega
      exact ⟨_, w, G, .inl (by simp [eqGuard, binOp, Op.shift, e]), rel_v G, .refl hs⟩
    · intro hb
      have e : ¬ b < 0 := by omega
      exact ⟨_, w, G, .inl (by simp [eqGuard, binOp, Op.shift, e]), rel_v G, .refl hs⟩
    · rename_i h1 h2
      split
      · rename_i hk
        have hk := kindEq_eq hk
        subst hk
        cases op <;> simp only [hint] <;> first | trivial | skip
        all_goals first
          | (intro hb; exact ⟨_, w, G, .inl (by simp [eqGuard, binOp, Op.intDiv, hb]), rel_v G, .refl hs⟩)
          | exact ⟨_, w, G, .inl (by simp [eqGuard, binOp, Op.intArith, Op.intBits, Op.intCmp]), rel_v G, .refl hs⟩
      · trivial
  · rename_i a b
    have hu := rel_v_eq hx
    have hv := rel_v_eq hy
    subst hu hv
    cases op <;> simp only [hstr] <;> first | trivial | skip
    case add =>
      intro hb
      have e : ¬ ((a.size + b.size : Nat) : Int) > IntKind.i64.max := by simp [IntKind.max, IntKind.signed, IntKind.bits]; omega
      have e2 : ¬ ((a.size : Int) + (b.size : Int) > IntKind.i64.max) := by simpa using e
      exact ⟨_, w, G, .inl (by simp [eqGuard, binOp, Op.stringOp, e2]; omega), rel_v G, .refl hs⟩
    all_goals exact ⟨_, w, G, .inl (by simp [eqGuard, binOp, Op.stringOp, strEq]), rel_v G, .refl hs⟩
  · trivial

theorem relCs_get4 {G : Ghost} : ∀ {l : List HV} {us : List Value}, relCs G l us → ∀ (o : Nat) (x : HV), l[o]? = some x → ∃ u, us[o]? = some u ∧ x.kd = .one ∧ relC G x [u]
  | [], _, _, o, x, e => by simp at e
  | y :: l, us, h, o, x, e => by
    simp only [relCs] at h
    obtain ⟨u, us', rfl, h1, h2⟩ := h
    cases o with
    | zero =>
      simp only [List.getElem?_cons_zero, Option.some.injEq] at e
      subst e
      exact ⟨u, by simp, h1⟩
    | succ o =>
      obtain ⟨u', e1, h3⟩ := relCs_get4 h2 o x (by simpa using e)
      exact ⟨u', by simpa using e1, h3⟩
theorem leaf_v {G : Ghost} {x u : Value} (h : relC G (.v x) [u]) : u = x := by
  simp only [relC] at h
  simpa using h.1
theorem run_isAgg_no {P : Program} {w : World} {t : TypeId} {u : TypeDesc} (hu : P.underlying t = some u) {k : PK} (hk : pkOf u k = true) : (isAgg t).run P w = .ok false w := by
  unfold Go.isAgg
  rw [Sem.run_bind, run_underlying hu, Result.andThen_ok]
  cases u <;> cases k <;> first | rfl | simp [pkOf] at hk
theorem run_eqLeaf {P : Program} {w : World} {d : Nat} {t : TypeId} {u : TypeDesc} (hu : P.underlying t = some u) {k : PK} (hk : pkOf u k = true) {x y : HV} {r : Bool} (hr : leafEqV k x y = some r) {a b : Value} (ha : relC G x [a]) (hb : relC G y [b]) :
    (Op.equalIn (d + 1) t a b).run P w = .ok r w := by
  unfold leafEqV at hr
  split at hr
  · rename_i k1 a' k2 b'
    split at hr
    · rename_i hkk
      have := kindEq_eq hkk
      subst this
      cases hr
      rw [leaf_v ha, leaf_v hb]
      cases u <;> first | exact run_equalIn_int w d t _ _ _ _ hu | simp [pkOf] at hk
    · cases hr
  · cases hr
    rw [leaf_v ha, leaf_v hb]
    cases u <;> first | exact run_equalIn_bool' w d t _ _ hu | simp [pkOf] at hk
  · cases hr
    rw [leaf_v ha, leaf_v hb]
    cases u <;> first | exact run_equalIn_string w d t _ _ hu | simp [pkOf] at hk
  · cases hr
theorem run_part {P : Program} {w : World} {t : TypeId} {cs : Array Value} {o : Nat} {v : Value} (ht : (isAgg t).run P w = .ok false w) (hv : cs.toList[o]? = some v) : (Go.part t cs o).run P w = .ok v w := by
  unfold Go.part
  rw [Sem.run_bind, ht, Result.andThen_ok]
  have : cs[o]? = some v := by simpa using hv
  simp [this]
theorem run_eqFields {P : Program} {w : World} {d : Nat} {xs ys : Array Value} {l l' : List HV} (hx : relCs G l xs.toList) (hy : relCs G l' ys.toList) :
    ∀ {fs : List Field} {e : List (Nat × PK)} {r : Bool}, eqFsB P fs e = true → fieldsV l l' e = some r → (Op.eqFields (d + 1) xs ys fs).run P w = .ok r w
  | [], [], r, _, h => by
    simp only [fieldsV, Option.some.injEq] at h
    subst h
    rfl
  | [], _ :: _, _, h, _ => by cases h
  | _ :: _, [], _, h, _ => by cases h
  | f :: fs, (o, k) :: e, r, h, hr => by
    simp only [eqFsB, Bool.and_eq_true, bne_iff_ne, beq_iff_eq] at h
    obtain ⟨⟨⟨h1, h2⟩, h3⟩, h4⟩ := h
    cases hu : P.underlying f.type with
    | none => rw [hu] at h3; cases h3
    | some u =>
      rw [hu] at h3
      have h3 : pkOf u k = true := h3
      simp only [fieldsV] at hr
      split at hr
      · rename_i x y ex ey
        split at hr
        · rename_i b1 b2 hb1 hb2
          cases hr
          obtain ⟨a, ea, _, ra⟩ := relCs_get4 hx o x ex
          obtain ⟨b, eb, _, rb⟩ := relCs_get4 hy o y ey
          have hag := run_isAgg_no (w := w) hu h3
          have key : ∀ (K : Sem Bool), (do
              let a ← Go.part f.type xs f.offset
              let b ← Go.part f.type ys f.offset
              let r ← Op.equalIn (d + 1) f.type a b
              if (!r) = true then pure false else K : Sem Bool).run P w = if (!b1) = true then .ok false w else K.run P w := by
            intro K
            rw [Sem.run_bind, h2, run_part hag ea, Result.andThen_ok, Sem.run_bind, run_part hag eb, Result.andThen_ok, Sem.run_bind, run_eqLeaf G hu h3 hb1 ra rb, Result.andThen_ok]
            cases b1 <;> rfl
          simp only [Op.eqFields]
          rw [if_pos h1, key, run_eqFields hx hy h4 hb2]
          cases b1 <;> rfl
        · cases hr
      · cases hr
theorem binT_ok (hs : SRel G s w) (op : BinOp) (t : TypeId) (xo yo : Operand) (x y : HV) (u v : Value) (hx : rel G x u) (hy : rel G y v) :
    ResOK c.P s G w ((do pure (Next.value (← (do eqGuard op t xo yo u v; binOp op t u v))) : Sem Next).run c.P w) (hbinT c s op t x y) := by
  have nilOK : ∀ (e : Prop) (a : Option Addr) (n m : Nat), u = .slice a n m → v = .slice none 0 0 → (a = none → e) → ResOK c.P s G w ((do pure (Next.value (← (do eqGuard op t xo yo u v; binOp op t u v))) : Sem Next).run c.P w) (hnil c s op t e) := by
    rintro e a n m rfl rfl he
    unfold hnil
    split
    · trivial
    · rename_i el hel
      have hud : c.P.underlying t = some (.slice el) := by
        unfold sliceElemT at hel
        split at hel
        · rename_i e' hd
          cases hel
          obtain ⟨i, ud, _, hud, _, _, _, _, hsh, _⟩ := c.ty_ok _ _ hd
          cases ud <;> simp only [shOK] at hsh
          subst hsh
          exact hud
        · cases hel
      have eq : (Op.equalIn 10000 t (.slice a n m) (.slice none 0 0)).run c.P w = .ok a.isNone w := run_equalIn_slice_nil (w := w) (d := 9999) (t := t) (e := el) a n m hud
      split
      · intro K hK
        refine ⟨_, _, hK a.isNone (fun h => he (by simpa using h)), _, w, G, .inl ?_, rel_v G, .refl hs⟩
        simp [eqGuard, binOp, Op.equal, Op.maxDepth, eq]
      · intro K hK
        refine ⟨_, _, hK (!a.isNone) (fun h => he (by simpa using h)), _, w, G, .inl ?_, rel_v G, .refl hs⟩
        simp [eqGuard, binOp, Op.equal, Op.maxDepth, eq]
      · trivial
  unfold hbinT
  split
  · rename_i tk sz l
    have hv := rel_v_eq hy
    obtain ⟨h1, _⟩ := leaf_of hx rfl
    simp only [relC] at h1
    rcases h1 with ⟨e0, e1, _⟩ | ⟨b, o, cp, e1, _⟩ | ⟨e0, _, a, e1⟩
    · exact nilOK _ _ _ _ (by simpa using e1) hv (fun _ => e0)
    · exact nilOK _ _ _ _ (by simpa using e1) hv (fun h => by cases h)
    · exact nilOK _ _ _ _ (by simpa using e1) hv (fun _ => e0)
  · have hv := rel_v_eq hy
    obtain ⟨h1, _⟩ := leaf_of hx rfl
    simp only [relC] at h1
    obtain ⟨b, _, e1⟩ := h1
    exact nilOK _ _ _ _ (by simpa using e1) hv (fun h => by cases h)
  · exact nilOK _ _ _ _ (rel_v_eq hx) (rel_v_eq hy) (fun _ => trivial)
  · rename_i xs ys
    unfold hstructEq
    split
    · trivial
    · rename_i l hl
      split
      · trivial
      · rename_i r hr
        obtain ⟨h1, h2, fs, h3, h4⟩ := c.eq_ok t l hl
        obtain ⟨us, rfl, hus⟩ := rel_agg_inv4 hx
        obtain ⟨vs, rfl, hvs⟩ := rel_agg_inv4 hy
        have hf : c.P.fieldsOf t = fs := by unfold Program.fieldsOf; rw [h3]
        have e : (Op.equalIn 10000 t (.agg us) (.agg vs)).run c.P w = .ok r w := by
          rw [run_equalIn_agg w 9999 t us vs (by rw [hf]; exact h3) h1, hf]
          exact run_eqFields (d := 9998) G hus hvs h4 hr
        cases op <;> first | trivial | skip
        all_goals refine ⟨_, w, G, .inl ?_, rel_v G, .refl hs⟩
        · simp only [Sem.run_bind, run_eqGuard_agg w .eql t xo yo us vs h2, Result.andThen_ok, run_eql_struct, e]
          rfl
        · simp only [Sem.run_bind, run_eqGuard_agg w .neq t xo yo us vs h2, Result.andThen_ok, run_neq_struct, e]
          rfl
  · rename_i a b
    have hu := rel_v_eq hx
    have hv := rel_v_eq hy
    subst hu hv
    split
    · rename_i e
      obtain ⟨i, ud, _, hud, _, _, _, _, hsh, _⟩ := c.ty_ok _ _ e
      have hud : c.P.underlying t = some .bool := by
        cases ud <;> simp only [shOK] at hsh
        exact hud
      have eq : (Op.equalIn 10000 t (.bool a) (.bool b)).run c.P w = .ok (a == b) w := run_equalIn_bool' w 9999 t a b hud
      cases op <;> first | trivial | skip
      all_goals refine ⟨_, w, G, .inl ?_, rel_v G, .refl hs⟩
      · simp [eqGuard, binOp, Op.equal, Op.maxDepth, eq]
      · simp [eqGuard, binOp, Op.equal, Op.maxDepth, eq]
        cases a <;> cases b <;> rfl
    · trivial
  · exact binOp_ok c s G w hs op t xo yo x y u v hx hy

end
end Go.Proofs.Hk

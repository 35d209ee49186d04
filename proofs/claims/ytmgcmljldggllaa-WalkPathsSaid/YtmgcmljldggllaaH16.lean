import Derived.Test.YtmgcmljldggllaaH15
set_option linter.unusedSimpArgs false
set_option linter.unusedVariables false
namespace Go.Proofs.Hk
open Go

def rdRes (tmps : Array Value) : ResultVar → Sem Value
  | .tmp t => pure (tmps.getD t undef)
  | .cell a t => do loadVar t (← asAddr (tmps.getD a undef))
theorem results_eq (fn : Func) (tmps : Array Value) : results fn tmps = (do let vs ← fn.results.mapM (rdRes tmps); pure (if h : vs.size = 1 then vs[0] else .tuple vs)) := by
  unfold results
  congr 1

theorem resH_ok {P : Program} {G : Ghost} {n : Nat} {a : Fr} {ra : Act} {w : World} (hf : FRel G n a ra) : ∀ {rs : List ResultVar} {xs : List HV}, resH a rs = some xs →
    ∃ us : List Value, (rs.mapM (rdRes ra.tmps) : Sem (List Value)).run P w = .ok us w ∧ relVs G xs us
  | [], xs, h => by
    simp only [resH, Option.some.injEq] at h
    subst h
    exact ⟨[], rfl, by simp [relVs]⟩
  | .tmp t :: l, xs, h => by
    simp only [resH] at h
    split at h
    · rename_i x he
      split at h
      · rename_i xs' hx
        cases h
        obtain ⟨us, h1, h2⟩ := resH_ok (P := P) (w := w) hf hx
        obtain ⟨_, hr⟩ := hf.slots t _ _ he
        exact ⟨ra.tmps.getD t undef :: us, by simp only [List.mapM_cons, rdRes, Sem.run_bind, Sem.run_pure, Result.andThen_ok, h1], by rw [relVs_cons]; exact ⟨_, _, rfl, hr, h2⟩⟩
      · cases h
    · cases h
  | .cell _ _ :: l, xs, h => by simp [resH] at h

theorem initFr_get : ∀ (args : List HV) (k t : Nat) (g : Tag) (x : HV), (initFr args k).get t = some (g, x) → g = .sure ∧ ∃ i, t = k + i ∧ args[i]? = some x
  | [], k, t, g, x, h => by simp [initFr, Fr.get] at h
  | y :: ys, k, t, g, x, h => by
    simp only [initFr, Fr.get] at h
    split at h
    · rename_i hk
      have := Nat.eq_of_beq_eq_true hk
      cases h
      exact ⟨rfl, 0, by omega, rfl⟩
    · obtain ⟨h1, i, h2, h3⟩ := initFr_get ys (k + 1) t g x h
      exact ⟨h1, i + 1, by omega, by simpa using h3⟩

theorem hcalls_of (c : Cx) {f : FuncId} {fn : Func} {code : Code} {args : List HV} {s : HS} {R : HEnd → HS → Prop} (hf : c.P.funcs[f]? = some fn) (hb : fn.body = some code) (hn : Nat.ble args.length fn.ntmps = true)
    (h : SemWp c.P fn.ntmps code (bodyQ fn.results.toList R) (initFr args 0) s) : HCalls c.P f args s R :=
  ⟨fun G w vs hs ha => by
    have hl := relVs_length ha
    have hn := Nat.le_of_ble_eq_true hn
    have hsz : vs.size = args.length := by simpa using hl
    refine calls_of_wp hf hb (wp_mono (h.out G w _ hs ⟨by simp; omega, rfl, fun t g x e => ?_⟩) fun e ra' w' ⟨he, a', s', G', q, hr, hf', hp⟩ => ?_)
    · obtain ⟨rfl, i, rfl, hx⟩ := initFr_get args 0 t g x e
      obtain ⟨u, hu, hr⟩ := relVs_get ha i x hx
      have hi : i < args.length := (List.getElem?_eq_some_iff.1 hx).1
      refine ⟨by omega, ?_⟩
      have : (vs ++ Array.replicate (fn.ntmps - vs.size) undef).getD (0 + i) undef = u := by
        rw [Nat.zero_add, Array.getD_eq_getD_getElem?, Array.getElem?_append_left (by omega)]
        have : vs[i]? = some u := by simpa using hu
        rw [this]; rfl
      rw [this]
      exact hr
    · have fin : ∀ rs : List ResultVar, rs = fn.results.toList → (match resH a' rs with | some [x] => Fin (R (.ret x) s') | some l => Fin (R (.ret (.tup l)) s') | none => False) → ra'.defers = [] ∧ ∃ v, (results fn ra'.tmps).run c.P w' = .ok v w' ∧ ∃ he s' G', R he s' ∧ endRel G' he (.returned v) ∧ Post s G w s' G' w' := by
        intro rs hrs hm
        refine ⟨hf'.defers, ?_⟩
        cases hx : resH a' rs with
        | none => rw [hx] at hm; exact hm.elim
        | some xs =>
          rw [hx] at hm
          obtain ⟨us, h1, h2⟩ := resH_ok (P := c.P) (w := w') hf' hx
          have hus := relVs_length h2
          have hrun : (fn.results.mapM (rdRes ra'.tmps) : Sem (Array Value)).run c.P w' = .ok us.toArray w' := by
            rw [← Array.toArray_toList (xs := fn.results), ← hrs, List.mapM_toArray, Sem.run_map]
            rw [h1]; rfl
          have hres : (results fn ra'.tmps).run c.P w' = .ok (if h : us.toArray.size = 1 then us.toArray[0] else .tuple us.toArray) w' := by
            rw [results_eq, Sem.run_bind, hrun]
            rfl
          match xs, hm, h2, hus with
          | [x], hm, h2, hus =>
            simp only [relVs_cons] at h2
            obtain ⟨u, us', rfl, hr1, hr2⟩ := h2
            simp only [relVs] at hr2
            subst hr2
            exact ⟨u, hres, _, s', G', hm.out, hr1, hp⟩
          | [], hm, h2, hus =>
            simp only [relVs] at h2
            subst h2
            exact ⟨_, hres, _, s', G', hm.out, (show rel G' (.tup []) (.tuple [].toArray) from tup_rel (by simp [relVs])), hp⟩
          | x :: y :: l, hm, h2, hus =>
            have hne : ¬ us.toArray.size = 1 := by simp at hus ⊢; omega
            rw [dif_neg hne] at hres
            exact ⟨_, hres, _, s', G', hm.out, tup_rel h2, hp⟩
      cases he with
      | normal => cases e <;> first | exact hr.elim | exact fin _ rfl q
      | ret => cases e <;> first | exact hr.elim | exact fin _ rfl q
      | exit i => exact q.elim
      | pan x =>
        cases e <;> first | exact hr.elim | skip
        exact ⟨hf'.defers, .pan x, s', G', q.out, hr, hp⟩⟩

/-- A function by its body. -/
theorem hcalls (c : Cx) {f : FuncId} {fn : Func} {code : Code} {args : List HV} {s : HS} {R : HEnd → HS → Prop} (hf : c.P.funcs[f]? = some fn) (hb : fn.body = some code) (hn : Nat.ble args.length fn.ntmps = true)
    (h : hwp c fn.ntmps code (bodyQ fn.results.toList R) (initFr args 0) s) : HCalls c.P f args s R := hcalls_of c hf hb hn (hwp_sound c _ _ _ _ _ h)

end Go.Proofs.Hk

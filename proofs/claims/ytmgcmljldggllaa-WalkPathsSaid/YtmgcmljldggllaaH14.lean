import Derived.Test.YtmgcmljldggllaaH13
set_option linter.unusedSimpArgs false
set_option linter.unusedVariables false
namespace Go.Proofs.Hk
open Go

theorem rel_tup_inv {G : Ghost} {l : List HV} {u : Value} (h : rel G (.tup l) u) : ∃ us : Array Value, u = .tuple us ∧ relVs G l us.toList := by
  obtain ⟨h1, h2⟩ := h
  cases u <;> first | cases h1 | skip
  simp only [relC, Value.cells] at h2
  obtain ⟨us, e, h⟩ := h2
  simp only [List.cons.injEq, Value.tuple.injEq, and_true] at e
  subst e
  exact ⟨_, rfl, h⟩
theorem tup_rel {G : Ghost} {l : List HV} {us : List Value} (h : relVs G l us) : rel G (.tup l) (.tuple us.toArray) := ⟨rfl, by simp only [relC, Value.cells]; exact ⟨us.toArray, rfl, by simpa using h⟩⟩
theorem relVs_get {G : Ghost} : ∀ {l : List HV} {us : List Value}, relVs G l us → ∀ (i : Nat) (x : HV), l[i]? = some x → ∃ u, us[i]? = some u ∧ rel G x u
  | [], us, h, i, x, e => by simp at e
  | y :: ys, us, h, i, x, e => by
    simp only [relVs_cons] at h
    obtain ⟨u, us', rfl, h1, h2⟩ := h
    cases i with
    | zero => simp only [List.getElem?_cons_zero, Option.some.injEq] at e; subst e; exact ⟨u, by simp, h1⟩
    | succ i => simpa using relVs_get h2 i x (by simpa using e)
theorem relVs_append {G : Ghost} : ∀ {l m : List HV} {us vs : List Value}, relVs G l us → relVs G m vs → relVs G (l ++ m) (us ++ vs)
  | [], m, us, vs, h, k => by simp only [relVs] at h; subst h; exact k
  | x :: xs, m, us, vs, h, k => by
    simp only [relVs_cons] at h
    obtain ⟨u, us', rfl, h1, h2⟩ := h
    simp only [List.cons_append, relVs_cons]
    exact ⟨u, us' ++ vs, rfl, h1, relVs_append h2 k⟩
theorem rel_fn {G : Ghost} {f : Fn} {fi ca : List HV} {u : Value} (h : rel G (.fn f fi ca) u) : ∃ a b : Array Value, u = .func f a b ∧ relVs G fi a.toList ∧ relVs G ca b.toList := by
  obtain ⟨h1, _⟩ := leaf_of h rfl
  simp only [relC] at h1
  obtain ⟨a, b, e, h⟩ := h1
  exact ⟨a, b, by simpa using e, h⟩
theorem fn_rel {G : Ghost} {f : Fn} {fi ca : List HV} {a b : List Value} (h1 : relVs G fi a) (h2 : relVs G ca b) : rel G (.fn f fi ca) (.func f a.toArray b.toArray) :=
  rel_leaf (by simp only [relC]; exact ⟨_, _, rfl, by simpa using h1, by simpa using h2⟩) rfl
theorem iface_rel {G : Ghost} {t : TypeId} {x : HV} {u : Value} (h : rel G x u) : rel G (.iface t x) (.iface t u) :=
  rel_leaf (by simp only [relC]; exact ⟨u, rfl, h.1, h.2⟩) rfl
theorem rel_iface {G : Ghost} {t : TypeId} {x : HV} {u : Value} (h : rel G (.iface t x) u) : ∃ v, u = .iface t v ∧ rel G x v := by
  obtain ⟨h1, _⟩ := leaf_of h rfl
  simp only [relC] at h1
  obtain ⟨v, e, h⟩ := h1
  exact ⟨v, by simpa using e, h⟩
theorem rel_cptr {G : Ghost} {x : HV} {u : Value} (h : rel G (.cptr x) u) : ∃ b o, u = .pointer (some ⟨b, o, none⟩) := by
  obtain ⟨h1, _⟩ := leaf_of h rfl
  simp only [relC] at h1
  obtain ⟨b, o, xs, e, _⟩ := h1
  exact ⟨b, o, by simpa using e⟩

theorem convert_ok (c : Cx) {s : HS} {G : Ghost} {w : World} (hs : SRel G s w) (src dst : TypeId) {x : HV} {u : Value} (hx : rel G x u) :
    ResOK c.P s G w ((do pure (Next.value (← convert src dst u)) : Sem Next).run c.P w) (hconvert c src dst x) := by
  unfold hconvert
  split
  · rename_i k k' n hd
    have hu := (c.ty_ok dst _ hd).int (w := w) rfl
    split
    · rename_i k2 hs2
      have hv := (c.ty_ok src _ hs2).int (w := w) rfl
      have := rel_v_eq hx
      subst this
      exact ⟨_, w, G, .inl (by simp [convert, hu, hv, Conv.intToInt]), rel_v G, .refl hs⟩
    · trivial
  · rename_i b hd
    have hu := (c.ty_ok dst _ hd).string (w := w) rfl
    split
    · rename_i hs2
      have hv := (c.ty_ok src _ hs2).string (w := w) rfl
      have := rel_v_eq hx
      subst this
      exact ⟨_, w, G, .inl (by simp [convert, hu, hv]), rel_v G, .refl hs⟩
    · trivial
  · rename_i hd _
    have hu := (c.ty_ok dst _ hd).string (w := w) rfl
    split
    · rename_i hb
      exact bytesStr_ok c hs hb hu hx
    · trivial
  · trivial

theorem call_ok (c : Cx) {s : HS} {G : Ghost} {w : World} {f : HV} {xs : List HV} {u : Value} {vs : List Value} (hf : rel G f u) (hx : relVs G xs vs) :
    ResOK c.P s G w ((do let d ← Deferred.ofValue u vs.toArray; invoke d.target d.args : Sem Next).run c.P w) (hcall c f xs) := by
  unfold hcall
  split
  · rename_i k fi ca
    obtain ⟨a, b, rfl, h1, h2⟩ := rel_fn hf
    intro hk
    obtain ⟨d, hd, hb, hn⟩ := c.fn_ok k hk
    refine ⟨a ++ vs.toArray ++ b, ?_, by simpa using relVs_append (relVs_append h1 hx) h2⟩
    have hn' : ¬ d.name = "runtime.NumGoroutine" := by simpa using hn
    have hb' : ¬ d.body = none := by intro e; rw [e] at hb; cases hb
    simp [Deferred.ofValue, invoke, callFunc, program, Sem.run, hd, hn', hb']
  · trivial

theorem zero_ok (c : Cx) {G : Ghost} {t : TypeId} {z : HV} (h : hzero c t = some z) : ∃ d, c.ty t = some d ∧ rel G z d.zero := by
  unfold hzero at h
  split at h
  · cases h
  · rename_i d hd
    refine ⟨d, hd, ?_⟩
    split at h
    · rename_i cs hz
      split at h
      · rename_i hone
        cases h
        rw [hz]
        simpa using rel_agg (relCs_map_v G cs.toList fun u hu => by
          have := (List.all_eq_true.1 hone) u hu
          cases u <;> first | rfl | cases this)
      · cases h
    · cases h
    · rename_i v h1 h2
      cases h
      exact rel_v G (h := by
        cases hv : d.zero <;> first | rfl | exact absurd hv (h1 _) | exact absurd hv (h2 _))

theorem builtin_ok (c : Cx) {s : HS} {G : Ghost} {w : World} (hs : SRel G s w) (b : Builtin) (ts : Array TypeId) (ty : TypeId) (consts : Array Bool) {xs : List HV} {vs : List Value} (hx : relVs G xs vs) :
    ResOK c.P s G w ((builtin b ts ty consts vs.toArray).run c.P w) (hbuiltin c s b ts.toList xs) := by
  unfold hbuiltin
  split
  · rename_i t x e
    have e : ts = #[t] := by rw [← Array.toArray_toList (xs := ts), e]
    subst e
    simp only [relVs_cons] at hx
    obtain ⟨u, us, rfl, h1, h2⟩ := hx
    simp only [relVs] at h2
    subst h2
    exact len_ok c hs t h1 ty
  · rename_i t u x y e
    have e : ts = #[t, u] := by rw [← Array.toArray_toList (xs := ts), e]
    subst e
    simp only [relVs_cons] at hx
    obtain ⟨p, us, rfl, h1, q, us', rfl, h2, h3⟩ := hx
    simp only [relVs] at h3
    subst h3
    exact append_ok c hs t u h1 h2 ty
  · rename_i k a k' b'
    simp only [relVs_cons] at hx
    obtain ⟨p, us, rfl, h1, q, us', rfl, h2, h3⟩ := hx
    simp only [relVs] at h3
    subst h3
    have e1 := rel_v_eq h1
    have e2 := rel_v_eq h2
    subst e1 e2
    split
    · rename_i hk
      have hk := kindEq_eq hk
      subst hk
      exact ⟨_, w, G, .inl (by simp [builtin, Builtin.min_, Builtin.min2]), rel_v G, .refl hs⟩
    · trivial
  · rename_i k a k' b'
    simp only [relVs_cons] at hx
    obtain ⟨p, us, rfl, h1, q, us', rfl, h2, h3⟩ := hx
    simp only [relVs] at h3
    subst h3
    have e1 := rel_v_eq h1
    have e2 := rel_v_eq h2
    subst e1 e2
    split
    · rename_i hk
      have hk := kindEq_eq hk
      subst hk
      exact ⟨_, w, G, .inl (by simp [builtin, Builtin.max_, Builtin.max2]), rel_v G, .refl hs⟩
    · trivial
  · trivial

theorem mapArr {α β : Type} (f : α → β) (xs : Array α) : (List.map f xs.toList).toArray = xs.map f := by
  apply Array.toList_inj.1; simp

theorem hop_ok (c : Cx) {s : HS} {G : Ghost} {w : World} {n : Nat} {a : Fr} {ra : Act} (hs : SRel G s w) (hf : FRel G n a ra) (o : Oper) :
    ResOK c.P s G w ((execOp ra.eval o).run c.P w) (hop c o.op a s) := by
  obtain ⟨dst, op, type, pos, after, guard⟩ := o
  have pairs : ∀ ps : Array (Nat × Operand), (ps.map fun (i, x) => (i, ra.eval x)) = ((ps.toList.map (·.1)).zip (ps.toList.map fun p => ra.eval p.2)).toArray := fun ps => by
    apply Array.toList_inj.1
    simp only [Array.toList_map]
    induction ps.toList with
    | nil => rfl
    | cons p l ih => simp [ih]
  have plen : ∀ (ps : Array (Nat × Operand)) {vs : List HV}, relVs G vs ((ps.toList.map (·.2)).map ra.eval) → (ps.toList.map (·.1)).length = vs.length ∧ relVs G vs (ps.toList.map fun p => ra.eval p.2) := fun ps {vs} h => by
    have := relVs_length h
    simp only [List.map_map] at h
    exact ⟨by simpa using this, h⟩
  cases op <;> simp only [hop] <;> try trivial
  case move x => exact arg_ok hf fun v hv => gives_pure hs hv
  case assign x => exact arg_ok hf fun v hv => gives_pure hs hv
  case pick b x y =>
    refine arg_ok hf fun v hv => ?_
    split
    · rename_i cb
      have hb := rel_v_eq hv
      have run : ∀ u v, ra.eval x = u → ra.eval y = v → (execOp ra.eval ⟨dst, .pick b x y, type, pos, after, guard⟩).run c.P w = .ok (.value (if cb then u else v)) w := fun u v h1 h2 => by
        simp [execOp, hb, asBool, h1, h2]
      split
      · rename_i gx p gy q hx hy
        have kx := ev_ok hf hx
        have ky := ev_ok hf hy
        have fin : (cb = true → ra.eval x = .bool p) → (cb = false → ra.eval y = .bool q) → Gives s G w ((execOp ra.eval ⟨dst, .pick b x y, type, pos, after, guard⟩).run c.P w) (.v (.bool (bif cb then p else q))) s := fun h1 h2 => by
          refine ⟨_, w, G, .inl (run _ _ rfl rfl), ?_, .refl hs⟩
          cases cb with
          | true =>
            simp only [if_true, h1 rfl, cond_true]
            exact rel_v G
          | false =>
            simp only [Bool.false_eq_true, if_false, h2 rfl, cond_false]
            exact rel_v G
        cases gx with
        | sure =>
          cases gy with
          | sure =>
            have base := fin (fun _ => rel_v_eq kx) (fun _ => rel_v_eq ky)
            simp only []
            split
            · rename_i ht
              have hp : p = true := by
                have hx1 := isTrue_eq ht
                subst hx1
                simp only [ev, Option.some.injEq, Prod.mk.injEq, HV.v.injEq, Value.bool.injEq] at hx
                exact hx.2.symm
              rw [hp] at base
              cases cb <;> exact base
            · split
              · rename_i ht
                have hq : q = false := by
                  have hy1 := isFalse_eq ht
                  subst hy1
                  simp only [ev, Option.some.injEq, Prod.mk.injEq, HV.v.injEq, Value.bool.injEq] at hy
                  exact hy.2.symm
                rw [hq] at base
                cases cb <;> exact base
              · exact base
          | cond g =>
            simp only []
            split
            · rename_i ht
              have hp : p = true := by
                have hx1 := isTrue_eq ht
                subst hx1
                simp only [ev, Option.some.injEq, Prod.mk.injEq, HV.v.injEq, Value.bool.injEq] at hx
                exact hx.2.symm
              intro h
              have := fin (fun _ => rel_v_eq kx) (fun e => rel_v_eq (ky.1 (h e)))
              rw [hp] at this
              cases cb <;> exact this
            · exact fun h => fin (fun _ => rel_v_eq kx) (fun e => rel_v_eq (ky.1 (h e)))
        | cond g' =>
          cases gy with
          | sure =>
            simp only []
            split
            · rename_i ht
              have hq : q = false := by
                have hy1 := isFalse_eq ht
                subst hy1
                simp only [ev, Option.some.injEq, Prod.mk.injEq, HV.v.injEq, Value.bool.injEq] at hy
                exact hy.2.symm
              intro h
              have := fin (fun e => rel_v_eq (kx.1 (h e))) (fun _ => rel_v_eq ky)
              rw [hq] at this
              cases cb <;> exact this
            · exact fun h => fin (fun e => rel_v_eq (kx.1 (h e))) (fun _ => rel_v_eq ky)
          | cond g => exact fun h => fin (fun e => rel_v_eq (kx.1 (h.1 e))) (fun e => rel_v_eq (ky.1 (h.2 e)))
      · rename_i gx x' gy y' hnb hx hy
        rintro K ⟨h1, h2⟩
        have kx := ev_ok hf hx
        have ky := ev_ok hf hy
        cases cb with
        | true =>
          have h1 := h1 rfl
          cases gx with
          | sure => exact ⟨x', s, h1, _, w, G, .inl (run _ _ rfl rfl), kx, .refl hs⟩
          | cond g => exact ⟨x', s, h1.2, _, w, G, .inl (run _ _ rfl rfl), kx.1 h1.1, .refl hs⟩
        | false =>
          have h2 := h2 rfl
          cases gy with
          | sure => exact ⟨y', s, h2, _, w, G, .inl (run _ _ rfl rfl), ky, .refl hs⟩
          | cond g => exact ⟨y', s, h2.2, _, w, G, .inl (run _ _ rfl rfl), ky.1 h2.1, .refl hs⟩
      · trivial
    · trivial
  case alloc t =>
    split
    · rename_i z hz
      obtain ⟨d, hd, hr⟩ := zero_ok c (G := G) hz
      have ht := c.ty_ok t d hd
      have := new_ok c.P hs t hr
      have e : (execOp ra.eval ⟨dst, .alloc t, type, pos, after, guard⟩).run c.P w = (do pure (Next.value (← (do pure (Value.pointer (some (← newVar t d.zero)))))) : Sem Next).run c.P w := by
        simp [execOp, Instr.alloc, ht.zero]
      rw [e]
      exact this
    · trivial
  case box t x => exact arg_ok hf fun v hv => new_ok c.P hs t hv
  case build t ps =>
    refine argsM_ok hf fun vs hvs => ?_
    obtain ⟨h1, h2⟩ := plen ps hvs
    have := build_ok c hs t h1 h2
    rw [← pairs ps] at this
    exact this
  case buildSlice t m ps =>
    refine argsM_ok hf fun vs hvs => ?_
    obtain ⟨h1, h2⟩ := plen ps hvs
    have := buildSlice_ok c hs t m h1 h2
    rw [← pairs ps] at this
    exact this
  case load t p => exact arg_ok hf fun v hv => load_ok c hs t hv
  case store t p x => exact arg_ok hf fun v hv => arg_ok hf fun v' hv' => store_ok c hs t hv hv'
  case nilCheck x =>
    refine arg_ok hf fun v hv => ?_
    split
    · obtain ⟨b, hb, e⟩ := rel_ptr hv
      exact ⟨_, w, G, .inl (by simp [execOp, e]), e ▸ hv, .refl hs⟩
    · obtain ⟨b, o, e⟩ := rel_cptr hv
      exact ⟨_, w, G, .inl (by simp [execOp, e]), e ▸ hv, .refl hs⟩
    · obtain ⟨a', b, e, _⟩ := rel_fn hv
      exact ⟨_, w, G, .inl (by simp [execOp, e]), e ▸ hv, .refl hs⟩
    · trivial
  case binOp op t x y yt => exact arg_ok hf fun u hu => arg_ok hf fun v hv => binT_ok c s G w hs op t x y u v _ _ hu hv
  case unOp op t x =>
    refine arg_ok hf fun v hv => ?_
    split
    · have e := rel_v_eq hv
      exact ⟨_, w, G, .inl (by simp [execOp, e, Op.unary]), rel_v G, .refl hs⟩
    · have e := rel_v_eq hv
      exact ⟨_, w, G, .inl (by simp [execOp, e, Op.unary, Op.intArith]), rel_v G, .refl hs⟩
    · trivial
  case convert src dst x => exact arg_ok hf fun v hv => convert_ok c hs src dst hv
  case makeFunc fn fi ca =>
    refine argsM_ok hf fun vs hvs => argsM_ok hf fun vs' hvs' => ?_
    exact ⟨.func fn (fi.map ra.eval) (ca.map ra.eval), w, G, .inl (by simp [execOp, Instr.makeFunc]), by have := fn_rel (f := fn) hvs hvs'; rwa [mapArr, mapArr] at this, .refl hs⟩
  case makeSlice t x y => exact arg_ok hf fun v hv => arg_ok hf fun v' hv' => makeSlice_ok c hs t _ hv hv'
  case slice t x lo hi mx => exact arg_ok hf fun v hv => argO_ok hf fun v1 h1 => argO_ok hf fun v2 h2 => argO_ok hf fun v3 h3 => slice_ok c hs t hv h1 h2 h3
  case fieldAddr t x f => exact arg_ok hf fun v hv => fieldAddr_ok c hs t f hv
  case field t x f => exact arg_ok hf fun v hv => field_ok c hs t f hv
  case indexAddr t x i => exact arg_ok hf fun v hv => arg_ok hf fun v' hv' => indexAddr_ok c hs t hv hv'
  case index t x i => exact arg_ok hf fun v hv => arg_ok hf fun v' hv' => index_ok c hs t hv hv'
  case extract x i =>
    refine arg_ok hf fun v hv => ?_
    split
    · rename_i l
      split
      · rename_i y hy
        obtain ⟨us, e, h⟩ := rel_tup_inv hv
        obtain ⟨u, hu, hr⟩ := relVs_get h i y hy
        have hu' : us[i]? = some u := by simpa using hu
        exact ⟨_, w, G, .inl (by simp [execOp, e, Instr.extract, hu']), hr, .refl hs⟩
      · trivial
    · trivial
  case makeInterface t x =>
    refine arg_ok hf fun v hv => ?_
    split
    · trivial
    · trivial
    · rename_i d h0 h1 h2
      have ht := c.ty_ok t d h2
      obtain ⟨u, hu, hsh, _⟩ := ht.und (w := w)
      refine ⟨_, w, G, .inl ?_, iface_rel hv, .refl hs⟩
      have hni : ∀ m, u ≠ .interface m := fun m e => by
        subst e
        obtain ⟨d1, d2, d3, d4, d5⟩ := d
        cases d5 <;> simp only [shOK] at hsh
        · exact h0 _ _ _ _ rfl
        · exact h1 _ _ _ _ rfl
      simp only [execOp, Instr.makeInterface, Sem.run_bind, hu, Result.andThen_ok]
      cases u <;> first | rfl | exact absurd rfl (hni _)
    · trivial
  case panic x =>
    refine arg_ok hf fun v hv => ?_
    split
    · rename_i t y
      intro _
      obtain ⟨u, e, hr⟩ := rel_iface hv
      exact ⟨_, by simp [execOp, e, Instr.panic, goPanic, Sem.run], iface_rel hr⟩
    · trivial
  case call cl =>
    obtain ⟨callee, xs, ts⟩ := cl
    cases callee with
    | value f =>
      refine arg_ok hf fun v hv => argsM_ok hf fun vs hvs => ?_
      have := call_ok c (s := s) (w := w) hv hvs
      rw [mapArr] at this
      simpa [execOp, resolve] using this
    | invoke r m => trivial
    | builtin b =>
      refine argsM_ok hf fun vs hvs => ?_
      simp only [execOp, resolve, invoke, pure_bind]
      rw [← mapArr ra.eval xs]
      exact builtin_ok c hs b ts type _ hvs

end Go.Proofs.Hk

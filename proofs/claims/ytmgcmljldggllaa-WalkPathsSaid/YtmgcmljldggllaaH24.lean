import Derived.Test.YtmgcmljldggllaaH23
set_option linter.unusedVariables false
set_option linter.unusedSimpArgs false
namespace Go.Proofs.Hk
open Go

/-! Results that stand in cells. -/
structure LoadIs (c : Cx) (s : HS) (t : TypeId) (r off : Nat) (K : HV → Prop) : Prop where
  out : ∃ cs t' d, hget s r = some (.cells cs t') ∧ c.ty t = some d ∧ ((d.isAgg = true ∧ off + d.size ≤ cs.length ∧ K (.agg ((cs.drop off).take d.size))) ∨ (d.isAgg = false ∧ ∃ x, cs[off]? = some x ∧ kdOne x = true ∧ K x))
theorem LoadIs.id {c : Cx} {s : HS} {t : TypeId} {r off : Nat} {K : HV → Prop} (h : LoadIs c s t r off K) : LoadIs c s t r off K := h
theorem LoadIs.agg {c : Cx} {s : HS} {t : TypeId} {r off : Nat} {K : HV → Prop} {cs : List HV} {t' : TypeId} {d : TyD} (hg : HGet s r (.cells cs t')) (hd : c.ty t = some d) (ha : d.isAgg = true) (hl : Nat.ble (off + d.size) cs.length = true) (k : K (.agg ((cs.drop off).take d.size))) : LoadIs c s t r off K :=
  ⟨cs, t', d, hg.eq, hd, .inl ⟨ha, Nat.le_of_ble_eq_true hl, k⟩⟩
theorem LoadIs.one {c : Cx} {s : HS} {t : TypeId} {r off : Nat} {K : HV → Prop} {cs : List HV} {t' : TypeId} {d : TyD} {x : HV} (hg : HGet s r (.cells cs t')) (hd : c.ty t = some d) (ha : d.isAgg = false) (hx : cs[off]? = some x) (hk : kdOne x = true) (k : K x) : LoadIs c s t r off K :=
  ⟨cs, t', d, hg.eq, hd, .inr ⟨ha, x, hx, hk, k⟩⟩

/-- What a function's results are, one by one. -/
def resG (c : Cx) (a : Fr) (s : HS) : List ResultVar → (List HV → Prop) → Prop
  | [], K => K []
  | .tmp t :: l, K => ∃ x, a.get t = some (.sure, x) ∧ resG c a s l fun xs => K (x :: xs)
  | .cell p t :: l, K => ∃ r off, a.get p = some (.sure, .ptr r off) ∧ LoadIs c s t r off fun y => resG c a s l fun xs => K (y :: xs)
structure ResG (c : Cx) (a : Fr) (s : HS) (l : List ResultVar) (K : List HV → Prop) : Prop where
  out : resG c a s l K
section
variable {c : Cx} {a : Fr} {s : HS} {l : List ResultVar} {K : List HV → Prop}
theorem ResG.nil (k : K []) : ResG c a s [] K := ⟨k⟩
theorem ResG.tmp {t : Tmp} {x : HV} (h : a.get t = some (.sure, x)) (k : ResG c a s l fun xs => K (x :: xs)) : ResG c a s (.tmp t :: l) K := ⟨⟨x, h, k.out⟩⟩
theorem ResG.cell {p : Tmp} {t : TypeId} {r off : Nat} (h : a.get p = some (.sure, .ptr r off)) (k : LoadIs c s t r off fun y => ResG c a s l fun xs => K (y :: xs)) : ResG c a s (.cell p t :: l) K := ⟨⟨r, off, h, by
  obtain ⟨cs, t', d, h1, h2, h3⟩ := k
  refine ⟨cs, t', d, h1, h2, ?_⟩
  rcases h3 with ⟨a1, a2, a3⟩ | ⟨a1, x, a2, a3, a4⟩
  · exact .inl ⟨a1, a2, a3.out⟩
  · exact .inr ⟨a1, x, a2, a3, a4.out⟩⟩⟩
theorem ResG.id (h : ResG c a s l K) : ResG c a s l K := h
end

theorem loadIs_ok {c : Cx} {s : HS} {G : Ghost} {w : World} (hs : SRel G s w) {t : TypeId} {r off : Nat} {u : Value} (hp : rel G (.ptr r off) u) {K : HV → Prop} (h : LoadIs c s t r off K) :
    ∃ y v, (do loadVar t (← asAddr u) : Sem Value).run c.P w = .ok v w ∧ rel G y v ∧ K y := by
  obtain ⟨b, ho, rfl⟩ := rel_ptr hp
  obtain ⟨cs, t', d, hg, hd, h⟩ := h
  have ht := c.ty_ok t d hd
  obtain ⟨b', vs, ho', ro, hb, hcs, hK⟩ := hs.holds r _ (hget_mem hg)
  rw [ho] at ho'
  cases ho'
  have hlen := relCs_length hcs
  have hrun : ∀ v, (loadVar t ⟨b, off, none⟩).run c.P w = .ok v w → (do loadVar t (← asAddr (.pointer (some ⟨b, off, none⟩))) : Sem Value).run c.P w = .ok v w := fun v h => h
  rcases h with ⟨ha, hl, k⟩ | ⟨ha, x, hx, hk, k⟩
  · have hseg := relCs_take d.size (relCs_drop off hcs)
    refine ⟨_, _, hrun _ (run_loadVar_agg (xs := (vs.toList.drop off).take d.size) ht ha ?_ ?_), rel_agg hseg, k⟩
    · simp only [List.length_take, List.length_drop]; omega
    · intro j hj
      have hj' : j < d.size := by simp only [List.length_take] at hj; omega
      simp only [World.cell?, hb, Option.isSome_none, Bool.false_eq_true, if_false]
      rw [List.getElem?_take_of_lt hj', List.getElem?_drop, Array.getElem?_toList]
  · obtain ⟨v, hv, _, hr⟩ := relCs_get hcs off x hx
    exact ⟨x, v, hrun _ (run_loadVar_one ht ha (by simp only [World.cell?, hb, Option.isSome_none, Bool.false_eq_true, if_false]; rw [← Array.getElem?_toList]; exact hv)), rel_leaf hr (kdOne_eq hk), k⟩

theorem resG_ok {c : Cx} {n : Nat} {a : Fr} {ra : Act} {s : HS} {G : Ghost} {w : World} (hs : SRel G s w) (hf : FRel G n a ra) : ∀ {rs : List ResultVar} {K : List HV → Prop}, resG c a s rs K →
    ∃ us xs, (rs.mapM (rdRes ra.tmps) : Sem (List Value)).run c.P w = .ok us w ∧ relVs G xs us ∧ K xs
  | [], K, h => ⟨[], [], rfl, by simp [relVs], h⟩
  | .tmp t :: l, K, ⟨x, e, k⟩ => by
    obtain ⟨us, xs, h1, h2, h3⟩ := resG_ok hs hf k
    obtain ⟨_, hr⟩ := hf.slots t _ _ e
    exact ⟨ra.tmps.getD t undef :: us, _ :: xs, by simp only [List.mapM_cons, rdRes, Sem.run_bind, Sem.run_pure, Result.andThen_ok, h1], by rw [relVs_cons]; exact ⟨_, _, rfl, hr, h2⟩, h3⟩
  | .cell p t :: l, K, ⟨r, off, e, k⟩ => by
    obtain ⟨_, hr⟩ := hf.slots p _ _ e
    have hr : rel G _ _ := hr
    obtain ⟨y, u, hy, hu, k⟩ := loadIs_ok hs hr k
    obtain ⟨us, xs, h1, h2, h3⟩ := resG_ok hs hf k
    have hy : (rdRes ra.tmps (.cell p t)).run c.P w = .ok u w := hy
    exact ⟨u :: us, y :: xs, by simp only [List.mapM_cons, Sem.run_bind, hy, Sem.run_pure, Result.andThen_ok, h1], by rw [relVs_cons]; exact ⟨_, _, rfl, hu, h2⟩, h3⟩

def tupOf : List HV → HV
  | [x] => x
  | l => .tup l
structure BodyR (c : Cx) (rs : List ResultVar) (R : HEnd → HS → Prop) (e : HExit) (a : Fr) (s : HS) : Prop where
  out : match e with
    | .pan x => R (.pan x) s
    | .exit _ => False
    | _ => resG c a s rs fun xs => Fin (R (.ret (tupOf xs)) s)
section
variable {c : Cx} {rs : List ResultVar} {R : HEnd → HS → Prop} {a : Fr} {s : HS}
theorem BodyR.ret (h : ResG c a s rs fun xs => Fin (R (.ret (tupOf xs)) s)) : BodyR c rs R .ret a s := ⟨h.out⟩
theorem BodyR.go (h : BodyR c rs R .ret a s) : BodyR c rs R .normal a s := ⟨h.out⟩
theorem BodyR.pan {v : HV} (h : Fin (R (.pan v) s)) : BodyR c rs R (.pan v) a s := ⟨h.out⟩
theorem BodyR.id {e : HExit} (h : BodyR c rs R e a s) : BodyR c rs R e a s := h
end

theorem sem_calls' (c : Cx) {f : FuncId} {fn : Func} {code : Code} {args : List HV} {a : Fr} {s : HS} {R : HEnd → HS → Prop} (hf : c.P.funcs[f]? = some fn) (hb : fn.body = some code) (hn : Nat.ble args.length fn.ntmps = true) (ha : initFr args 0 = a)
    (h : SemWp c.P fn.ntmps code (BodyR c fn.results.toList R) a s) : HCalls c.P f args s R :=
  ⟨fun G w vs hs hargs => by
    subst ha
    have hl := relVs_length hargs
    have hn := Nat.le_of_ble_eq_true hn
    have hsz : vs.size = args.length := by simpa using hl
    refine calls_of_wp hf hb (wp_mono (h.out G w _ hs ⟨by simp; omega, rfl, fun t g x e => ?_⟩) fun e ra' w' ⟨he, a', s', G', q, hr, hf', hp⟩ => ?_)
    · obtain ⟨rfl, i, rfl, hx⟩ := initFr_get args 0 t g x e
      obtain ⟨u, hu, hr⟩ := relVs_get hargs i x hx
      have hi : i < args.length := (List.getElem?_eq_some_iff.1 hx).1
      refine ⟨by omega, ?_⟩
      have : (vs ++ Array.replicate (fn.ntmps - vs.size) undef).getD (0 + i) undef = u := by
        rw [Nat.zero_add, Array.getD_eq_getD_getElem?, Array.getElem?_append_left (by omega)]
        have : vs[i]? = some u := by simpa using hu
        rw [this]; rfl
      rw [this]
      exact hr
    · have fin : resG c a' s' fn.results.toList (fun xs => Fin (R (.ret (tupOf xs)) s')) → ra'.defers = [] ∧ ∃ v, (results fn ra'.tmps).run c.P w' = .ok v w' ∧ ∃ he s' G', R he s' ∧ endRel G' he (.returned v) ∧ Post s G w s' G' w' := by
        intro hm
        refine ⟨hf'.defers, ?_⟩
        obtain ⟨us, xs, h1, h2, h3⟩ := resG_ok hp.srel hf' hm
        have hus := relVs_length h2
        have hrun : (fn.results.mapM (rdRes ra'.tmps) : Sem (Array Value)).run c.P w' = .ok us.toArray w' := by
          rw [← Array.toArray_toList (xs := fn.results), List.mapM_toArray, Sem.run_map]
          rw [h1]; rfl
        have hres : (results fn ra'.tmps).run c.P w' = .ok (if h : us.toArray.size = 1 then us.toArray[0] else .tuple us.toArray) w' := by
          rw [results_eq, Sem.run_bind, hrun]
          rfl
        match xs, h3, h2, hus with
        | [x], h3, h2, hus =>
          simp only [relVs_cons] at h2
          obtain ⟨u, us', rfl, hr1, hr2⟩ := h2
          simp only [relVs] at hr2
          subst hr2
          exact ⟨u, hres, _, s', G', h3.out, hr1, hp⟩
        | [], h3, h2, hus =>
          simp only [relVs] at h2
          subst h2
          exact ⟨_, hres, _, s', G', h3.out, (show rel G' (.tup []) (.tuple [].toArray) from tup_rel (by simp [relVs])), hp⟩
        | x :: y :: l, h3, h2, hus =>
          have hne : ¬ us.toArray.size = 1 := by simp at hus ⊢; omega
          rw [dif_neg hne] at hres
          exact ⟨_, hres, _, s', G', h3.out, tup_rel h2, hp⟩
      have q := q.out
      cases he with
      | normal => cases e <;> first | exact hr.elim | exact fin q
      | ret => cases e <;> first | exact hr.elim | exact fin q
      | exit i => exact q.elim
      | pan x =>
        cases e <;> first | exact hr.elim | skip
        exact ⟨hf'.defers, .pan x, s', G', q, hr, hp⟩⟩
theorem newB {e : Bool → Prop} {F : Bool → Prop} (h : ∀ b, e b → F b) : ∀ b, e b → F b := h
/-- What tells less, part by part. -/
inductive WeakerC : List HV → List HV → Prop
  | nil : WeakerC [] []
  | cons {x y : HV} {l m : List HV} (h : Weaker x y) (hy : y.kd = .one) (k : WeakerC l m) : WeakerC (x :: l) (y :: m)
theorem WeakerC.rel {l m : List HV} (h : WeakerC l m) {G : Ghost} : ∀ {us : List Value}, relCs G l us → relCs G m us := by
  induction h with
  | nil => exact fun h => h
  | cons h hy _ ih =>
    intro us hu
    simp only [relCs] at hu ⊢
    obtain ⟨u, us', rfl, ⟨h1, h2⟩, h3⟩ := hu
    have := leaf_of (h G u (rel_leaf h2 h1)) hy
    exact ⟨u, us', rfl, ⟨hy, this.1⟩, ih h3⟩
theorem Weaker.agg {l m : List HV} (h : WeakerC l m) : Weaker (.agg l) (.agg m) := fun G u hu => by
  obtain ⟨us, rfl, hv⟩ := rel_agg_inv4 hu
  have := rel_agg (h.rel hv)
  simpa using this
theorem Weaker.eq {x y : HV} (h : x = y) : Weaker x y := h ▸ .refl x
theorem Weaker.full (sz : Nat) (l : List HV) : Weaker (.list .full sz l) (.list .no sz l) := Weaker.tok _ _ _
/-- The end: what is told, weakened. -/
theorem Fin.weak {x y : HV} (h : Weaker y x) : Fin (∃ z, HEnd.ret y = .ret z ∧ Weaker z x) := ⟨y, rfl, h⟩
theorem Fin.weakS {x y : HV} {s s2 : HS} (h : Weaker y x) (k : Subp s2 s) : Fin (∃ z, HEnd.ret y = .ret z ∧ Weaker z x ∧ Subp s2 s) := ⟨y, rfl, h, k⟩
theorem grow_split {ys : List HV} {X Y : Prop} (h1 : ys = [] → X) (h2 : ys ≠ [] → Y) : match (generalizing := false) ys with
    | [] => X
    | _ => Y := by
  cases ys with
  | nil => exact h1 rfl
  | cons y l => exact h2 (by simp)
section
variable {c : Cx} {n : Nat} {g : Tag} {dst : Option Tmp} {K : Fr → HS → Prop} {Q : HExit → Fr → HS → Prop} {a : Fr} {s : HS}
theorem Stp.isSumU {x : Int} (k : Stp c n g dst K Q (.pure (.v (.int .u64 (IntKind.u64.wrap x)))) a s) : Stp c n g dst K Q (.pure (.v (.int .u64 (IntKind.u64.wrap x)))) a s := k
theorem Stp.sumU {x : Int} (k : Stp c n g dst K Q (.pure (.v (.int .u64 x))) a s) (hw : 0 ≤ x ∧ x ≤ 18446744073709551615 := by omega) : Stp c n g dst K Q (.pure (.v (.int .u64 (IntKind.u64.wrap x)))) a s := by rw [IntWalk.u64_in x hw]; exact k
theorem Stp.isSum3 {x : Int} (k : Stp c n g dst K Q (.pure (.v (.int .u32 (IntKind.u32.wrap x)))) a s) : Stp c n g dst K Q (.pure (.v (.int .u32 (IntKind.u32.wrap x)))) a s := k
theorem Stp.sum3 {x : Int} (k : Stp c n g dst K Q (.pure (.v (.int .u32 x))) a s) (hw : 0 ≤ x ∧ x ≤ 4294967295 := by omega) : Stp c n g dst K Q (.pure (.v (.int .u32 (IntKind.u32.wrap x)))) a s := by rw [IntWalk.u32_in x hw]; exact k
end
section
variable {c : Cx} {n : Nat} {t : HS} {g : Tag} {dst : Option Tmp} {K : Fr → Prop} {a : Fr}
theorem DStp.isSumU {x : Int} (k : DStp c n t g dst K (.pure (.v (.int .u64 (IntKind.u64.wrap x)))) a) : DStp c n t g dst K (.pure (.v (.int .u64 (IntKind.u64.wrap x)))) a := k
theorem DStp.sumU {x : Int} (k : DStp c n t g dst K (.pure (.v (.int .u64 x))) a) (hw : 0 ≤ x ∧ x ≤ 18446744073709551615 := by omega) : DStp c n t g dst K (.pure (.v (.int .u64 (IntKind.u64.wrap x)))) a := by rw [IntWalk.u64_in x hw]; exact k
theorem DStp.isSum3 {x : Int} (k : DStp c n t g dst K (.pure (.v (.int .u32 (IntKind.u32.wrap x)))) a) : DStp c n t g dst K (.pure (.v (.int .u32 (IntKind.u32.wrap x)))) a := k
theorem DStp.sum3 {x : Int} (k : DStp c n t g dst K (.pure (.v (.int .u32 x))) a) (hw : 0 ≤ x ∧ x ≤ 4294967295 := by omega) : DStp c n t g dst K (.pure (.v (.int .u32 (IntKind.u32.wrap x)))) a := by rw [IntWalk.u32_in x hw]; exact k
end
theorem TStp.upd {c : Cx} {n : Nat} {m t : HS} {dst : Option Tmp} {K : Fr → HS → Prop} {a : Fr} {r : Nat} {cs ys l : List HV} {off k : Nat} {t' : TypeId} {x : HV} (m' : HS) (hl : Nat.ble (off + k) cs.length = true) (e : cs.take off ++ ys ++ cs.drop (off + k) = l) (h : HsetIs (m ++ t) r (.cells l t') (m' ++ t)) (hk : PutD n dst .sure (fun a' => K a' m') a x) : TStp c n m t dst K (.eff fun L => Upd cs off k ys fun l => L x (hset (m ++ t) r (.cells l t'))) a :=
  TStp.eff m' ⟨Nat.le_of_ble_eq_true hl, rfl, by rw [e]; exact h.eq⟩ hk
/-- What is told of an argument may be told of one of which more is known. -/
theorem Pur.arg {c : Cx} {f : FuncId} {x y z : HV} (h : Pur c f [x] z) (hw : Weaker y x) : Pur c f [y] z :=
  ⟨⟨fun G w vs hs ha => h.out.out G w vs hs (by
    simp only [relVs_cons] at ha ⊢
    obtain ⟨u, us, e, h1, h2⟩ := ha
    exact ⟨u, us, e, hw G u h1, h2⟩)⟩⟩
theorem Pur.args {c : Cx} {f : FuncId} {xs ys : List HV} {z : HV} (h : Pur c f xs z) (hw : WeakerL ys xs) : Pur c f ys z :=
  ⟨⟨fun G w vs hs ha => h.out.out G w vs hs (hw.relVs ha)⟩⟩
theorem Stp.rwB {c : Cx} {n : Nat} {g : Tag} {dst : Option Tmp} {K : Fr → HS → Prop} {Q : HExit → Fr → HS → Prop} {a : Fr} {s : HS} {b b' : Bool} (e : b = b') (k : Stp c n g dst K Q (.pure (.v (.bool b'))) a s) : Stp c n g dst K Q (.pure (.v (.bool b))) a s := by subst e; exact k
theorem DStp.rwB {c : Cx} {n : Nat} {t : HS} {g : Tag} {dst : Option Tmp} {K : Fr → Prop} {a : Fr} {b b' : Bool} (e : b = b') (k : DStp c n t g dst K (.pure (.v (.bool b'))) a) : DStp c n t g dst K (.pure (.v (.bool b))) a := by subst e; exact k
end Go.Proofs.Hk

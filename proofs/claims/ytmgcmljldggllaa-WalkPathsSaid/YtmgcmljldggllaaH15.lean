import Derived.Test.YtmgcmljldggllaaH14
set_option linter.unusedSimpArgs false
set_option linter.unusedVariables false
namespace Go.Proofs.Hk
open Go

theorem tagRel.mono {G G' : Ghost} (le : G.Le G') {g : Tag} {x : HV} {u : Value} (h : tagRel G g x u) : tagRel G' g x u := by
  cases g with
  | sure => exact rel.mono le h
  | cond b => exact ⟨fun e => (h.1 e).mono le, h.2⟩
theorem FRel.mono {G G' : Ghost} (le : G.Le G') {n : Nat} {a : Fr} {ra : Act} (h : FRel G n a ra) : FRel G' n a ra :=
  ⟨h.size, h.defers, fun t g x e => ⟨(h.slots t g x e).1, (h.slots t g x e).2.mono le⟩⟩

theorem FRel.put {G : Ghost} {n : Nat} {a a' : Fr} {ra : Act} (h : FRel G n a ra) {dst : Option Tmp} {g : Tag} {x : HV} {u : Value} (e : hput n dst g x a = some a') (hu : tagRel G g x u) : FRel G n a' (ra.put dst u) := by
  unfold hput at e
  split at e
  · cases e; exact h
  · rename_i d
    split at e
    · rename_i hd
      cases e
      have hd : d < n := by simpa [Nat.blt_eq] using hd
      refine ⟨by simp [Act.put, h.size], h.defers, fun t g' x' e' => ?_⟩
      simp only [Fr.get] at e'
      split at e'
      · rename_i ht
        have ht := Nat.eq_of_beq_eq_true ht
        subst ht
        cases e'
        refine ⟨hd, ?_⟩
        have : ((ra.put (some d) u).tmps).getD d undef = u := by
          simp only [Act.put, Array.getD_eq_getD_getElem?]
          rw [Array.getElem?_setIfInBounds_self_of_lt (by rw [h.size]; exact hd)]
          rfl
        rw [this]; exact hu
      · rename_i ht
        have hne : d ≠ t := fun e => by subst e; simp at ht
        have := h.slots t g' x' e'
        refine ⟨this.1, ?_⟩
        have e2 : ((ra.put (some d) u).tmps).getD t undef = ra.tmps.getD t undef := by
          simp only [Act.put, Array.getD_eq_getD_getElem?]
          rw [Array.getElem?_setIfInBounds_ne hne]
        rw [e2]; exact this.2
    · cases e

/-- Forgetting. -/
def Fr.Sub (a b : Fr) : Prop := ∀ t g x, a.get t = some (g, x) → b.get t = some (g, x)
theorem FRel.sub {G : Ghost} {n : Nat} {a b : Fr} {ra : Act} (h : FRel G n b ra) (hs : a.Sub b) : FRel G n a ra :=
  ⟨h.size, h.defers, fun t g x e => h.slots t g x (hs t g x e)⟩

def Lift (n : Nat) (s0 : HS) (G0 : Ghost) (w0 : World) (Q : HExit → Fr → HS → Prop) : Exit → Act → World → Prop :=
  fun e ra w => ∃ he a s G, Q he a s ∧ exitRel G he e ∧ FRel G n a ra ∧ Post s0 G0 w0 s G w

theorem SemWp.lift {P : Program} {n : Nat} {code : Code} {Q : HExit → Fr → HS → Prop} {a : Fr} {s : HS} (h : SemWp P n code Q a s) {s0 : HS} {G0 : Ghost} {w0 : World} (h0 : SRel G0 s0 w0) {G : Ghost} {w : World} {ra : Act}
    (hp : Post s0 G0 w0 s G w) (hf : FRel G n a ra) : code.wp P (Lift n s0 G0 w0 Q) ra w :=
  wp_mono (h.out G w ra hp.srel hf) fun _ _ _ ⟨he, a', s', G', hq, hr, hf', hp'⟩ => ⟨he, a', s', G', hq, hr, hf', hp.trans h0 hp'⟩

theorem SemWp.mono {P : Program} {n : Nat} {code : Code} {Q Q' : HExit → Fr → HS → Prop} {a : Fr} {s : HS} (h : SemWp P n code Q a s) (hq : ∀ e a s, Q e a s → Q' e a s) : SemWp P n code Q' a s :=
  ⟨fun G w ra hs hf => wp_mono (h.out G w ra hs hf) fun _ _ _ ⟨he, a', s', G', q, hr, hf', hp'⟩ => ⟨he, a', s', G', hq _ _ _ q, hr, hf', hp'⟩⟩
theorem SemWp.forget {P : Program} {n : Nat} {code : Code} {Q : HExit → Fr → HS → Prop} {a b : Fr} {s : HS} (h : SemWp P n code Q a s) (hs : a.Sub b) : SemWp P n code Q b s :=
  ⟨fun G w ra hr hf => h.out G w ra hr (hf.sub hs)⟩

theorem SemWp.done {P : Program} {n : Nat} {code : Code} {Q : HExit → Fr → HS → Prop} {a : Fr} {s : HS} {he : HExit} {e : Exit} (hw : ∀ (R : Exit → Act → World → Prop) (ra : Act) (w : World), R e ra w → code.wp P R ra w) (hr : ∀ G, exitRel G he e) (h : Q he a s) : SemWp P n code Q a s :=
  ⟨fun G w ra hs hf => hw _ ra w ⟨he, a, s, G, h, hr G, hf, .refl hs⟩⟩

theorem SemWp.seq {P : Program} {n : Nat} {x y : Code} {Q : HExit → Fr → HS → Prop} {a : Fr} {s : HS} (h : SemWp P n x (fun e a s => match e with | .normal => SemWp P n y Q a s | e => Q e a s) a s) : SemWp P n (.seq x y) Q a s :=
  ⟨fun G w ra hs hf => wp_seq (wp_mono (h.out G w ra hs hf) fun e ra' w' ⟨he, a', s', G', q, hr, hf', hp⟩ => by
    cases he with
    | normal =>
      cases e <;> first | exact hr.elim | skip
      exact q.lift hs hp hf'
    | exit i => cases e <;> first | exact hr.elim | exact ⟨.exit i, a', s', G', q, hr, hf', hp⟩
    | ret => cases e <;> first | exact hr.elim | exact ⟨.ret, a', s', G', q, hr, hf', hp⟩
    | pan x => cases e <;> first | exact hr.elim | exact ⟨.pan x, a', s', G', q, hr, hf', hp⟩)⟩

theorem SemWp.block {P : Program} {n : Nat} {id : Nat} {b : Code} {Q : HExit → Fr → HS → Prop} {a : Fr} {s : HS} (h : SemWp P n b (hinBlock id Q) a s) : SemWp P n (.block id b) Q a s :=
  ⟨fun G w ra hs hf => wp_block (wp_mono (h.out G w ra hs hf) fun e ra' w' ⟨he, a', s', G', q, hr, hf', hp⟩ => by
    cases he with
    | normal => cases e <;> first | exact hr.elim | exact ⟨.normal, a', s', G', q, hr, hf', hp⟩
    | exit i =>
      cases e <;> first | exact hr.elim | skip
      have hij : i = _ := hr
      subst hij
      simp only [hinBlock] at q
      simp only [Exit.inBlock]
      split at q
      · rename_i hb
        rw [if_pos (Nat.eq_of_beq_eq_true hb)]
        exact ⟨.normal, a', s', G', q, trivial, hf', hp⟩
      · rename_i hb
        rw [if_neg (fun e => by subst e; simp at hb)]
        exact ⟨.exit i, a', s', G', q, rfl, hf', hp⟩
    | ret => cases e <;> first | exact hr.elim | exact ⟨.ret, a', s', G', q, hr, hf', hp⟩
    | pan x => cases e <;> first | exact hr.elim | exact ⟨.pan x, a', s', G', q, hr, hf', hp⟩)⟩

/-- A loop, by what holds at every round's head and a measure. -/
theorem SemWp.loop {P : Program} {n : Nat} {b : Code} {Q : HExit → Fr → HS → Prop} {a : Fr} {s : HS} (I : Nat → Fr → HS → Prop) (m0 : Nat) (h0 : I m0 a s)
    (round : ∀ m a s, I m a s → SemWp P n b (fun e a' s' => match e with | .normal => ∃ m', m' < m ∧ I m' a' s' | e => Q e a' s') a s) : SemWp P n (.loop b) Q a s :=
  ⟨fun G w ra hs hf => by
    have key : ∀ m, ∀ a1 s1 G1 w1 ra1, I m a1 s1 → FRel G1 n a1 ra1 → Post s G w s1 G1 w1 → ∀ (bf : Frame) (k : List Item) (cs : List Frame),
        ∃ e a' w', Lift n s G w Q e a' w' ∧ Arrives P (lone (bf.at ra1 (.code b :: .inLoop b :: k)) cs w1) bf k cs e a' w' := by
      intro m
      induction m using Nat.strongRecOn with
      | _ m ih =>
        intro a1 s1 G1 w1 ra1 hI hf1 hp1 bf k cs
        obtain ⟨e, ra2, w2, ⟨he, a2, s2, G2, q, hr, hf2, hp2⟩, harr⟩ := (round m a1 s1 hI).lift hs hp1 hf1 bf (.inLoop b :: k) cs
        cases he with
        | normal =>
          cases e <;> first | exact hr.elim | skip
          obtain ⟨m', hlt, hI'⟩ := q
          obtain ⟨e2, ra3, w3, hq, harr2⟩ := ih m' hlt a2 s2 G2 w2 ra2 hI' hf2 hp2 bf k cs
          exact ⟨e2, ra3, w3, hq, .of_steps (Steps.trans harr (.one step_inLoop)) harr2⟩
        | exit i => cases e <;> first | exact hr.elim | exact ⟨_, ra2, w2, ⟨.exit i, a2, s2, G2, q, hr, hf2, hp2⟩, .pass (x := .inLoop b) rfl (fun _ _ => .inl (by simp)) harr⟩
        | ret => cases e <;> first | exact hr.elim | exact ⟨_, ra2, w2, ⟨.ret, a2, s2, G2, q, hr, hf2, hp2⟩, .pass (x := .inLoop b) rfl (fun _ _ => .inl (by simp)) harr⟩
        | pan x => cases e <;> first | exact hr.elim | exact ⟨_, ra2, w2, ⟨.pan x, a2, s2, G2, q, hr, hf2, hp2⟩, .pass (x := .inLoop b) rfl (fun _ _ => .inl (by simp)) harr⟩
    intro bf k cs
    obtain ⟨e, a', w', hq, harr⟩ := key m0 a s G w ra h0 hf (.refl hs) bf k cs
    exact ⟨e, a', w', hq, .of_steps (.one step_loop) harr⟩⟩

theorem active_ok {all : Array Oper} {a : Fr} {o : Oper} {tg : Tag} {G : Ghost} {n : Nat} {ra : Act} (hf : FRel G n a ra) (h : active all a o = some tg) :
    Region.wanted o (yielded all ra.tmps) = (match tg with | .sure => true | .cond b => b) := by
  unfold active at h
  unfold Region.wanted
  split at h
  · rename_i hg; cases h; rw [hg]
  · rename_i j want hg
    rw [hg]
    split at h
    · cases h
    · rename_i oj hj
      split at h
      · cases h
      · rename_i d hd
        have hy : ∀ v, ra.tmps.getD d undef = v → d < n → yielded all ra.tmps j = (match v with | .bool b => some b | _ => none) := fun v hv hdn => by
          have : ra.tmps[d]? = some v := by
            rw [← hv, Array.getD_eq_getD_getElem?, Array.getElem?_eq_getElem (by rw [hf.size]; exact hdn)]
            rfl
          simp only [yielded, hj, hd, Option.bind_some, this]
          cases v <;> rfl
        split at h
        · rename_i b he
          obtain ⟨hdn, hr⟩ := hf.slots d _ _ he
          have := rel_v_eq hr
          simp only []
          rw [hy _ this hdn]
          cases want <;> simp only [Option.some.injEq] at h <;> subst h <;> cases b <;> rfl
        · rename_i g b he
          obtain ⟨hdn, hr1, hr2⟩ := hf.slots d _ _ he
          simp only []
          cases g with
          | true =>
            have := rel_v_eq (hr1 rfl)
            rw [hy _ this hdn]
            cases want <;> simp only [Option.some.injEq] at h <;> subst h <;> cases b <;> rfl
          | false =>
            rw [hy _ (hr2 rfl) hdn]
            cases want <;> simp only [Option.some.injEq] at h <;> subst h <;> rfl
        · cases h

theorem upon_gives {P : Program} {o : Oper} {ra : Act} {next : Act → World → Prop} {QR : Exit → Act → World → Prop} {r : Result Next} {u : Value} {w' : World} (hy : Yields r u w') (h : next (ra.put o.dst u) w') : o.upon P ra next QR r := by
  rcases hy with rfl | ⟨rfl, rfl⟩
  · exact h
  · exact h

theorem opsWp_ok (c : Cx) (n : Nat) (all : Array Oper) (Q : HExit → Fr → HS → Prop) {s0 : HS} {G0 : Ghost} {w0 : World} (h0 : SRel G0 s0 w0) :
    ∀ (l : List Oper) (k : Nat), all.toList.drop k = l → ∀ (a : Fr) (s : HS) (G : Ghost) (w : World) (ra : Act), opsWp c n all Q l a s → Post s0 G0 w0 s G w → FRel G n a ra →
      wpOps c.P all (Lift n s0 G0 w0 Q) (List.range' k l.length) ra w := by
  intro l
  induction l with
  | nil => intro k _ a s G w ra h hp hf; exact ⟨.normal, a, s, G, h, trivial, hf, hp⟩
  | cons o rest ih =>
    intro k hk a s G w ra h hp hf
    have hko : all[k]? = some o := by
      have : (all.toList.drop k)[0]? = some o := by rw [hk]; rfl
      rw [List.getElem?_drop] at this
      simpa using this
    have hrest : all.toList.drop (k + 1) = rest := by rw [← List.drop_drop, hk]; rfl
    simp only [List.length_cons, List.range'_succ, wpOps, hko]
    have next : ∀ {g : Tag} {x : HV} {s' : HS} {G' : Ghost} {w' : World} {u : Value}, Post s G w s' G' w' → tagRel G' g x u → (match hput n o.dst g x a with | none => False | some a' => opsWp c n all Q rest a' s') → wpOps c.P all (Lift n s0 G0 w0 Q) (List.range' (k + 1) rest.length) (ra.put o.dst u) w' := by
      intro g x s' G' w' u hp' hu hm
      split at hm
      · exact hm.elim
      · rename_i a' ha
        exact ih (k + 1) hrest a' s' G' w' _ hm (hp.trans h0 hp') ((hf.mono hp'.ext.le).put ha hu)
    have off : (match hput n o.dst (.cond false) (.v undef) a with | none => False | some a' => opsWp c n all Q rest a' s) → wpOps c.P all (Lift n s0 G0 w0 Q) (List.range' (k + 1) rest.length) (ra.put o.dst undef) w := fun hm =>
      next (g := .cond false) (.refl hp.srel) ⟨(fun e => by cases e), fun _ => rfl⟩ hm
    have hsem := hop_ok c hp.srel hf o
    have called : ∀ {f : FuncId} {xs : List HV} {vs : Array Value}, (execOp ra.eval o).run c.P w = .ok (.enter f vs) w → relVs G xs vs.toList → CallWp c f xs s (fun x s' => match hput n o.dst .sure x a with
        | none => False
        | some a' => opsWp c n all Q rest a' s') (fun x s' => Q (.pan x) a s') → o.wp c.P ra w (wpOps c.P all (Lift n s0 G0 w0 Q) (List.range' (k + 1) rest.length)) (Lift n s0 G0 w0 Q) := by
      intro f xs vs hr hx hc
      unfold Oper.wp
      rw [hr, Oper.upon_enter]
      refine (hc.out.out G w vs hp.srel hx).mono fun e w' ⟨he, s', G', hR, hrel, hp'⟩ => ?_
      cases he with
      | ret x =>
        cases e <;> first | exact hrel.elim | skip
        exact next (g := .sure) hp' hrel hR
      | pan x =>
        cases e <;> first | exact hrel.elim | skip
        exact ⟨.pan x, a, s', G', hR, hrel, hf.mono hp'.ext.le, hp.trans h0 hp'⟩
    simp only [opsWp] at h
    split at h
    · exact h.elim
    · rename_i hact
      have hw := active_ok hf hact
      simp only [] at hw
      rw [hw]
      simp only [if_true]
      refine .inl ?_
      generalize hop c o.op a s = q at h hsem
      induction q with
      | bad => exact h.elim
      | pure x =>
        obtain ⟨u, w', G', hy, hr, hp'⟩ := hsem
        exact upon_gives hy (next (g := .sure) hp' hr h)
      | val φ x =>
        obtain ⟨hφ, h⟩ := h
        obtain ⟨u, w', G', hy, hr, hp'⟩ := hsem hφ
        exact upon_gives hy (next (g := .sure) hp' hr h)
      | call φ f xs =>
        obtain ⟨hφ, h⟩ := h
        obtain ⟨vs, hr, hx⟩ := hsem hφ
        exact called hr hx h
      | pan φ x =>
        obtain ⟨hφ, h⟩ := h
        obtain ⟨u, hr, hu⟩ := hsem hφ
        unfold Oper.wp
        rw [hr, Oper.upon_panic]
        exact ⟨.pan _, a, s, G, h, ⟨u, rfl, hu⟩, hf, hp⟩
      | eff W =>
        obtain ⟨x, s', hK, u, w', G', hy, hr, hp'⟩ := hsem _ h
        exact upon_gives hy (next (g := .sure) hp' hr hK)
      | look r k ihq =>
        obtain ⟨x, hx, h⟩ := h
        exact ihq x h (hsem x hx)
    · rename_i b hact
      have hw := active_ok hf hact
      simp only [] at hw
      rw [hw]
      generalize hop c o.op a s = q at h hsem
      induction q with
      | bad => exact h.elim
      | pure x =>
        obtain ⟨u, w', G', hy, hr, hp'⟩ := hsem
        cases b with
        | true => exact .inl (upon_gives hy (next (g := .cond true) hp' ⟨fun _ => hr, (fun e => by cases e)⟩ h))
        | false => exact next (g := .cond false) (.refl hp.srel) ⟨(fun e => by cases e), fun _ => rfl⟩ h
      | val φ x =>
        obtain ⟨hφ, h⟩ := h
        cases b with
        | true =>
          obtain ⟨u, w', G', hy, hr, hp'⟩ := hsem (hφ rfl)
          exact .inl (upon_gives hy (next (g := .cond true) hp' ⟨fun _ => hr, (fun e => by cases e)⟩ h))
        | false => exact next (g := .cond false) (.refl hp.srel) ⟨(fun e => by cases e), fun _ => rfl⟩ h
      | call φ f xs =>
        rcases h with ⟨⟨x, hq, h⟩ | h⟩
        · cases b with
          | true =>
            obtain ⟨hφ, hc⟩ := hq rfl
            obtain ⟨vs, hr, hx⟩ := hsem hφ
            refine .inl ?_
            unfold Oper.wp
            rw [hr, Oper.upon_enter]
            refine (hc.out.out G w vs hp.srel hx).mono fun e w' ⟨he, s', G', ⟨h1, h2⟩, hrel, hp'⟩ => ?_
            subst h1 h2
            cases e <;> first | exact hrel.elim | skip
            exact next (g := .cond true) hp' ⟨fun _ => hrel, (fun e => by cases e)⟩ h
          | false => exact next (g := .cond false) (.refl hp.srel) ⟨(fun e => by cases e), fun _ => rfl⟩ h
        · cases b with
          | true =>
            obtain ⟨hφ, h⟩ := h.1 rfl
            obtain ⟨vs, hr, hx⟩ := hsem hφ
            exact .inl (called hr hx h)
          | false => exact off (h.2 rfl)
      | pan φ x =>
        cases b with
        | true =>
          obtain ⟨hφ, h⟩ := h.1 rfl
          obtain ⟨u, hr, hu⟩ := hsem hφ
          refine .inl ?_
          unfold Oper.wp
          rw [hr, Oper.upon_panic]
          exact ⟨.pan _, a, s, G, h, ⟨u, rfl, hu⟩, hf, hp⟩
        | false => exact off (h.2 rfl)
      | eff W =>
        cases b with
        | true =>
          obtain ⟨x, s', hK, u, w', G', hy, hr, hp'⟩ := hsem _ (h.1 rfl)
          exact .inl (upon_gives hy (next (g := .sure) hp' hr hK))
        | false => exact off (h.2 rfl)
      | look r k ihq =>
        obtain ⟨x, hx, h⟩ := h
        exact ihq x h (hsem x hx)

theorem hwp_sound (c : Cx) (n : Nat) : ∀ (code : Code) (Q : HExit → Fr → HS → Prop) (a : Fr) (s : HS), hwp c n code Q a s → SemWp c.P n code Q a s
  | .skip, Q, a, s, h => .done (he := .normal) (fun _ _ _ => wp_skip) (fun _ => trivial) h
  | .label _, Q, a, s, h => .done (he := .normal) (fun _ _ _ => wp_label) (fun _ => trivial) h
  | .exit id, Q, a, s, h => .done (he := .exit id) (fun _ _ _ => wp_exit) (fun _ => rfl) h
  | .ret, Q, a, s, h => .done (he := .ret) (fun _ _ _ => wp_ret) (fun _ => trivial) h
  | .region id ops draw, Q, a, s, h => by
    cases draw with
    | true => exact (show DrawReg c.P n id ops Q a s from h).out
    | false =>
      refine ⟨fun G w ra hs hf => wp_region ?_⟩
      have := opsWp_ok c n ops Q hs ops.toList 0 rfl a s G w ra h (.refl hs) hf
      rw [List.range_eq_range', ← Array.length_toList]
      exact this
  | .seq x y, Q, a, s, h => by
    have h : hwp c n x (hthen (hwp c n y Q) Q) a s := h
    refine SemWp.seq ((hwp_sound c n x _ a s h).mono fun e a s hq => ?_)
    cases e with
    | normal => exact hwp_sound c n y Q a s hq.out
    | exit i => exact hq
    | ret => exact hq
    | pan x => exact hq
  | .cond t x y, Q, a, s, h => by
    simp only [hwp] at h
    split at h
    · rename_i b he
      refine ⟨fun G w ra hs hf => ?_⟩
      have hb := rel_v_eq (ev_ok hf he)
      cases b with
      | true => exact wp_cond_true hb ((hwp_sound c n x Q a s (h.1 rfl)).out G w ra hs hf)
      | false => exact wp_cond_false hb ((hwp_sound c n y Q a s (h.2 rfl)).out G w ra hs hf)
    · exact h.elim
  | .block id b, Q, a, s, h => .block (hwp_sound c n b _ a s h)
  | .loop b, Q, a, s, h => h
  | .rangeFunc _ _ _ _, Q, a, s, h => h
  | .scope _, Q, a, s, h => h
  | .goto _, Q, a, s, h => h
  | .refuse _, Q, a, s, h => h

/-! Bodies. -/
def resH (a : Fr) : List ResultVar → Option (List HV)
  | [] => some []
  | .tmp t :: l => match a.get t with
    | some (.sure, x) => match resH a l with
      | some xs => some (x :: xs)
      | none => none
    | _ => none
  | _ => none
/-- What is left to be shown at an end. -/
structure Fin (p : Prop) : Prop where
  out : p
def bodyQ (rs : List ResultVar) (R : HEnd → HS → Prop) : HExit → Fr → HS → Prop
  | .pan x, _, s => Fin (R (.pan x) s)
  | .exit _, _, _ => False
  | _, a, s => match resH a rs with
    | some [x] => Fin (R (.ret x) s)
    | some l => Fin (R (.ret (.tup l)) s)
    | none => False
def initFr : List HV → Nat → Fr
  | [], _ => []
  | x :: xs, k => (k, .sure, x) :: initFr xs (k + 1)

end Go.Proofs.Hk

import Derived.Orders
import Derived.Test.YtmgcmljldggllaaH16
namespace Go.Proofs.Hk
open Go

theorem Post.permR {s s1 s2 : HS} {G G' : Ghost} {w w' : World} (p : s1.Perm s2) (k : Post s G w s1 G' w') : Post s G w s2 G' w' :=
  ⟨k.srel.permd p, k.ext, fun r hr => k.names r ((p.map _).mem_iff.2 hr)⟩
theorem Post.frameL {s t s' : HS} {G G' : Ghost} {w w' : World} (h : SRel G (t ++ s) w) (k : Post s G w s' G' w') : Post (t ++ s) G w (t ++ s') G' w' :=
  ((Post.frame (h.permd List.perm_append_comm) k).permL List.perm_append_comm).permR List.perm_append_comm

/-! Regions whose order is drawn. -/
abbrev GF := Nat → Option (Tag × HV)
def gput (g : GF) (dst : Option Tmp) (e : Tag × HV) : GF :=
  match dst with
  | none => g
  | some d => fun t => if t = d then some e else g t
theorem gput_comm (g : GF) {x y : Option Tmp} (v u : Tag × HV) (h : ∀ d, x = some d → y ≠ some d) : gput (gput g x v) y u = gput (gput g y u) x v := by
  cases x with
  | none => rfl
  | some d =>
    cases y with
    | none => rfl
    | some e =>
      have hne : d ≠ e := fun he => h d rfl (he ▸ rfl)
      funext t
      simp only [gput]
      by_cases h1 : t = e
      · subst h1; rw [if_pos rfl, if_neg (Ne.symm hne), if_pos rfl]
      · rw [if_neg h1]
        by_cases h2 : t = d
        · rw [if_pos h2, if_pos h2]
        · rw [if_neg h2, if_neg h2, if_neg h1]

structure FOn (S : List Tmp) (G : Ghost) (n : Nat) (g : GF) (ra : Act) : Prop where
  size : ra.tmps.size = n
  defers : ra.defers = []
  slots : ∀ t, t ∈ S → ∀ tg x, g t = some (tg, x) → t < n ∧ tagRel G tg x (ra.tmps.getD t undef)
structure FAll (G : Ghost) (n : Nat) (g : GF) (ra : Act) : Prop where
  size : ra.tmps.size = n
  defers : ra.defers = []
  slots : ∀ t tg x, g t = some (tg, x) → t < n ∧ tagRel G tg x (ra.tmps.getD t undef)
theorem FAll.on {G : Ghost} {n : Nat} {g : GF} {ra : Act} (h : FAll G n g ra) (S : List Tmp) : FOn S G n g ra := ⟨h.size, h.defers, fun t _ => h.slots t⟩
theorem FAll.put {G : Ghost} {n : Nat} {g : GF} {ra : Act} (h : FAll G n g ra) {dst : Option Tmp} (hd : ∀ d, dst = some d → d < n) {tg : Tag} {x : HV} {u : Value} (hu : tagRel G tg x u) : FAll G n (gput g dst (tg, x)) (ra.put dst u) := by
  cases dst with
  | none => exact h
  | some d =>
    have hd := hd d rfl
    refine ⟨by simp [Act.put, h.size], h.defers, fun t tg' x' e => ?_⟩
    simp only [gput] at e
    split at e
    · rename_i ht
      subst ht
      cases e
      refine ⟨hd, ?_⟩
      have : ((ra.put (some t) u).tmps).getD t undef = u := by
        simp only [Act.put, Array.getD_eq_getD_getElem?]
        rw [Array.getElem?_setIfInBounds_self_of_lt (by rw [h.size]; exact hd)]
        rfl
      rw [this]; exact hu
    · rename_i ht
      have := h.slots t tg' x' e
      refine ⟨this.1, ?_⟩
      have e2 : ((ra.put (some d) u).tmps).getD t undef = ra.tmps.getD t undef := by
        simp only [Act.put, Array.getD_eq_getD_getElem?]
        rw [Array.getElem?_setIfInBounds_ne (Ne.symm ht)]
      rw [e2]; exact this.2
theorem FAll.mono {G G' : Ghost} (le : G.Le G') {n : Nat} {g : GF} {ra : Act} (h : FAll G n g ra) : FAll G' n g ra :=
  ⟨h.size, h.defers, fun t tg x e => ⟨(h.slots t tg x e).1, (h.slots t tg x e).2.mono le⟩⟩

def tgB : Tag → Bool
  | .sure => true
  | .cond b => b

/-- What an operation comes to, a value. -/
def OpTo (P : Program) (o : Oper) (ra : Act) (w : World) (R : Value → World → Prop) : Prop :=
  match (execOp ra.eval o).run P w with
  | .ok (.value u) w' => R u w'
  | .ok .skip w' => R undef w'
  | .ok (.enter f args) w' => Calls P f args w' fun e w'' => ∃ u, e = .returned u ∧ R u w''
  | _ => False
theorem OpTo.wp {P : Program} {o : Oper} {ra : Act} {w : World} {R : Value → World → Prop} {next : Act → World → Prop} {Q : Exit → Act → World → Prop} (h : OpTo P o ra w R) (hn : ∀ u w', R u w' → next (ra.put o.dst u) w') : o.wp P ra w next Q := by
  unfold OpTo at h
  unfold Oper.wp
  generalize (execOp ra.eval o).run P w = r at *
  cases r with
  | ok nx w' =>
    cases nx <;> simp only at h <;> simp only [Oper.upon]
    · exact hn _ _ h
    · exact hn _ _ h
    · exact h.mono fun e w'' ⟨u, he, hR⟩ => by subst he; exact hn _ _ hR
  | halt x w' => exact h.elim

section
variable (P : Program) (n : Nat) (ops : Array Oper) (t : HS) (E : List Nat)

/-- In a frame, of which only what it looks at counts, an operation yields this, and turns m to m'. -/
def YH (o : Oper) (g : GF) (m : HS) (e : Tag × HV) (m' : HS) : Prop :=
  (∀ d, o.dst = some d → d < n) ∧ ∀ G w ra, SRel G (m ++ t) w → FOn (o.looksAt ops) G n g ra →
    Region.wanted o (yielded ops ra.tmps) = tgB e.1 ∧ (tgB e.1 = true → OpTo P o ra w fun u w' => ∃ G', rel G' e.2 u ∧ Post (m ++ t) G w (m' ++ t) G' w')
def YQ (o : Oper) (g : GF) (e : Tag × HV) : Prop := ∀ m, YH P n ops t o g m e m

theorem YH.put {o : Oper} {g : GF} {m m' : HS} {e : Tag × HV} (h : YH P n ops t o g m e m') {dst : Option Tmp} (hd : ∀ d, dst = some d → d ∉ o.looksAt ops) (e' : Tag × HV) : YH P n ops t o (gput g dst e') m e m' := by
  refine ⟨h.1, fun G w ra hs hf => h.2 G w ra hs ⟨hf.size, hf.defers, fun s hs' tg x eq => hf.slots s hs' tg x ?_⟩⟩
  cases dst with
  | none => exact eq
  | some d =>
    simp only [gput]
    rw [if_neg (fun hh : s = d => hd d rfl (hh ▸ hs'))]
    exact eq
theorem YH.unput {o : Oper} {g : GF} {m m' : HS} {e : Tag × HV} {dst : Option Tmp} {e' : Tag × HV} (h : YH P n ops t o (gput g dst e') m e m') (hd : ∀ d, dst = some d → d ∉ o.looksAt ops) : YH P n ops t o g m e m' := by
  refine ⟨h.1, fun G w ra hs hf => h.2 G w ra hs ⟨hf.size, hf.defers, fun s hs' tg x eq => hf.slots s hs' tg x ?_⟩⟩
  cases dst with
  | none => exact eq
  | some d =>
    simp only [gput] at eq
    rw [if_neg (fun hh : s = d => hd d rfl (hh ▸ hs'))] at eq
    exact eq

/-- An operation as it comes up. -/
def qOpH (i : Nat) (K : GF → HS → Prop) (g : GF) (m : HS) : Prop :=
  match ops[i]? with
  | none => K g m
  | some o => match E.contains i with
    | true => ∃ e m', tgB e.1 = true ∧ YH P n ops t o g m e m' ∧ K (gput g o.dst e) m'
    | false => ∃ e, YQ P n ops t o g e ∧ K (gput g o.dst e) m
theorem qOpH_mono {i : Nat} {K K' : GF → HS → Prop} (h : ∀ g m, K g m → K' g m) {g : GF} {m : HS} (hh : qOpH P n ops t E i K g m) : qOpH P n ops t E i K' g m := by
  unfold qOpH at *
  split
  · exact h _ _ (by simpa [*] using hh)
  · rename_i o ho
    simp only [ho] at hh
    split
    · rename_i hE; simp only [hE] at hh; obtain ⟨e, m', h0, h1, h2⟩ := hh; exact ⟨e, m', h0, h1, h _ _ h2⟩
    · rename_i hE; simp only [hE] at hh; obtain ⟨e, h1, h2⟩ := hh; exact ⟨e, h1, h _ _ h2⟩
def wpAnyH (Q : GF → HS → Prop) : Nat → Array Bool → GF → HS → Prop
  | 0, listed, g, m => Region.ready .any ops listed = [] ∧ Q g m
  | fuel + 1, listed, g, m =>
    (Region.ready .any ops listed = [] → Q g m) ∧
    ∀ i ∈ Region.ready .any ops listed, qOpH P n ops t E i (wpAnyH Q fuel (listed.setIfInBounds i true)) g m

/-- It goes through as the machine does it. -/
theorem wpAny_of_H {Q : GF → HS → Prop} {Q' : Exit → Act → World → Prop} {s0 : HS} {G0 : Ghost} {w0 : World} (h0 : SRel G0 s0 w0)
    (hQ : ∀ g m G w ra, Post s0 G0 w0 (m ++ t) G w → FAll G n g ra → Q g m → Q' .normal ra w) :
    ∀ (fuel : Nat) (listed : Array Bool) (g : GF) (m : HS) (G : Ghost) (w : World) (ra : Act), Post s0 G0 w0 (m ++ t) G w → FAll G n g ra → wpAnyH P n ops t E Q fuel listed g m → wpAny P .any ops Q' fuel listed ra w
  | 0, _, g, m, G, w, ra, hp, hf, h => ⟨h.1, hQ g m G w ra hp hf h.2⟩
  | fuel + 1, listed, g, m, G, w, ra, hp, hf, h => ⟨fun h1 => hQ g m G w ra hp hf (h.1 h1), fun i hi => by
      have hi := h.2 i hi
      unfold qOpH at hi
      unfold wpOp
      have step : ∀ {o : Oper} {e : Tag × HV} {m' : HS}, YH P n ops t o g m e m' → (tgB e.1 = false → m' = m) → wpAnyH P n ops t E Q fuel (listed.setIfInBounds i true) (gput g o.dst e) m' →
          if Region.wanted o (yielded ops ra.tmps) = true then o.wp P ra w (wpAny P .any ops Q' fuel (listed.setIfInBounds i true)) Q' ∨ (o.asks P ra w ∧ LetsOut Q') else wpAny P .any ops Q' fuel (listed.setIfInBounds i true) (ra.put o.dst undef) w := by
        intro o e m' hy hoff hK
        obtain ⟨hd, hy⟩ := hy
        obtain ⟨hw, hto⟩ := hy G w ra hp.srel (hf.on _)
        rw [hw]
        cases hb : tgB e.1 with
        | true =>
          rw [if_pos rfl]
          refine .inl ((hto hb).wp fun u w' ⟨G', hr, hp'⟩ => ?_)
          refine wpAny_of_H h0 hQ fuel _ _ m' G' w' _ (hp.trans h0 hp') ((hf.mono hp'.ext.le).put hd ?_) hK
          cases he : e.1 with
          | sure => exact hr
          | cond b => rw [he] at hb; exact ⟨fun _ => hr, (fun hb' => by rw [show b = true from hb] at hb'; cases hb')⟩
        | false =>
          rw [if_neg (by simp)]
          have := hoff hb
          subst this
          refine wpAny_of_H h0 hQ fuel _ _ m' G w _ hp (hf.put hd ?_) hK
          cases he : e.1 with
          | sure => rw [he] at hb; cases hb
          | cond b => rw [he] at hb; exact ⟨(fun hb' => by rw [show b = false from hb] at hb'; cases hb'), fun _ => rfl⟩
      split
      · rename_i ho; simp only [ho] at hi; exact wpAny_of_H h0 hQ fuel _ g m G w ra hp hf hi
      · rename_i o ho
        simp only [ho] at hi
        split at hi
        · obtain ⟨e, m', h1, h2, h3⟩ := hi
          exact step h2 (fun h => by rw [h1] at h; cases h) h3
        · obtain ⟨e, h2, h3⟩ := hi
          exact step (h2 m) (fun _ => rfl) h3⟩

/-- What has been shown of an operation that is taken first. -/
def YF (i : Nat) (o : Oper) (g : GF) (m : HS) (e : Tag × HV) (m' : HS) : Prop :=
  match E.contains i with
  | true => tgB e.1 = true ∧ YH P n ops t o g m e m'
  | false => m' = m ∧ YQ P n ops t o g e
theorem YF.qOp {i : Nat} {o : Oper} {g : GF} {m m' : HS} {e : Tag × HV} (hi : ops[i]? = some o) (hy : YF P n ops t E i o g m e m') {K : GF → HS → Prop} (h : K (gput g o.dst e) m') : qOpH P n ops t E i K g m := by
  unfold qOpH
  simp only [hi]
  unfold YF at hy
  split at hy
  · exact ⟨e, m', hy.1, hy.2, h⟩
  · obtain ⟨rfl, hy⟩ := hy; exact ⟨e, hy, h⟩
theorem yf_of_qOp {i : Nat} {o : Oper} {g : GF} {m : HS} {K : GF → HS → Prop} (hi : ops[i]? = some o) (h : qOpH P n ops t E i K g m) : ∃ e m', YF P n ops t E i o g m e m' ∧ K (gput g o.dst e) m' := by
  unfold qOpH at h
  simp only [hi] at h
  split at h
  · rename_i hE
    obtain ⟨e, m', h1, h2, h3⟩ := h
    exact ⟨e, m', by unfold YF; rw [hE]; exact ⟨h1, h2⟩, h3⟩
  · rename_i hE
    obtain ⟨e, h2, h3⟩ := h
    exact ⟨e, m, by unfold YF; rw [hE]; exact ⟨rfl, h2⟩, h3⟩

def apartE (i j : Nat) (oi oj : Oper) : Bool := oi.apart ops oj && !(E.contains i && E.contains j)
theorem qOpH_put {i j : Nat} {oi oj : Oper} {e : Tag × HV} (hj : ops[j]? = some oj) (hap : apartE ops E i j oi oj = true) {K : GF → HS → Prop} {g : GF} {m m' : HS}
    (hy : YF P n ops t E i oi g m e m') (h : qOpH P n ops t E j K (gput g oi.dst e) m') :
    qOpH P n ops t E j (fun g1 m1 => ∃ m2, YF P n ops t E i oi g1 m1 e m2 ∧ K (gput g1 oi.dst e) m2) g m := by
  simp only [apartE, Bool.and_eq_true, Bool.not_eq_true', Bool.and_eq_false_iff] at hap
  obtain ⟨h1, h2, h3⟩ := Oper.apart_spec hap.1
  unfold qOpH at *
  simp only [hj] at *
  cases hEi : E.contains i with
  | true =>
    have hEj : E.contains j = false := by rcases hap.2 with h | h; rw [hEi] at h; cases h; exact h
    simp only [hEj] at h ⊢
    unfold YF at hy ⊢
    simp only [hEi] at hy ⊢
    obtain ⟨ej, hq, hK⟩ := h
    refine ⟨ej, fun m0 => (hq m0).unput P n ops t h1, m', ⟨hy.1, hy.2.put P n ops t h3 _⟩, ?_⟩
    rw [← gput_comm g e ej h2]; exact hK
  | false =>
    unfold YF at hy ⊢
    simp only [hEi] at hy ⊢
    obtain ⟨rfl, hy⟩ := hy
    cases hEj : E.contains j with
    | true =>
      simp only [hEj] at h ⊢
      obtain ⟨ej, m2, h0, hq, hK⟩ := h
      refine ⟨ej, m2, h0, hq.unput P n ops t h1, m2, ⟨rfl, fun m0 => (hy m0).put P n ops t h3 _⟩, ?_⟩
      rw [← gput_comm g e ej h2]; exact hK
    | false =>
      simp only [hEj] at h ⊢
      obtain ⟨ej, hq, hK⟩ := h
      refine ⟨ej, fun m0 => (hq m0).unput P n ops t h1, m', ⟨rfl, fun m0 => (hy m0).put P n ops t h3 _⟩, ?_⟩
      rw [← gput_comm g e ej h2]; exact hK

theorem wpAnyH_first {Q : GF → HS → Prop} {i : Nat} {oi : Oper} {e : Tag × HV} (hi : ops[i]? = some oi) :
    ∀ (fuel : Nat) (listed : Array Bool) (g : GF) (m m' : HS),
      (∀ j oj, ops[j]? = some oj → j ≠ i → listed.getD j true = false → (∀ e ∈ oj.after, Region.binds .any e = true → e.on ≠ i) → apartE ops E i j oi oj = true) →
      i ∈ Region.ready .any ops listed → YF P n ops t E i oi g m e m' →
      wpAnyH P n ops t E Q fuel (listed.setIfInBounds i true) (gput g oi.dst e) m' → wpAnyH P n ops t E Q (fuel + 1) listed g m := by
  intro fuel
  induction fuel with
  | zero =>
    intro listed g m m' _ hr hy H
    refine ⟨fun h => (by rw [h] at hr; cases hr), fun j hj => ?_⟩
    by_cases hji : j = i
    · subst hji; exact hy.qOp P n ops t E hi H
    · have := ready_mono hj hji
      rw [H.1] at this
      cases this
  | succ fuel ih =>
    intro listed g m m' hfree hr hy H
    refine ⟨fun h => (by rw [h] at hr; cases hr), fun j hj => ?_⟩
    by_cases hji : j = i
    · subst hji; exact hy.qOp P n ops t E hi H
    · have h1 := H.2 j (ready_mono hj hji)
      obtain ⟨hjun, oj, hoj, hall⟩ := mem_ready.1 hj
      have hnot : ∀ e ∈ oj.after, Region.binds .any e = true → e.on ≠ i := fun e he hb heq => by
        have h1 := hall e he hb
        have h0 := (mem_ready.1 hr).1
        rw [heq] at h1
        rcases Nat.lt_or_ge i listed.size with h' | h'
        · simp [h'] at h0 h1; rw [h0] at h1; cases h1
        · simp [Array.getElem?_eq_none h'] at h1
      have h2 := qOpH_put P n ops t E hoj (hfree j oj hoj hji hjun hnot) hy h1
      have hfree' : ∀ k ok, ops[k]? = some ok → k ≠ i → (listed.setIfInBounds j true).getD k true = false →
          (∀ e ∈ ok.after, Region.binds .any e = true → e.on ≠ i) → apartE ops E i k oi ok = true := fun k ok hk hki hun hno => by
        refine hfree k ok hk hki ?_ hno
        by_cases hjk : j = k
        · subst hjk; exact hjun
        · rw [getD_set_ne true hjk] at hun; exact hun
      refine qOpH_mono P n ops t E (fun g1 m1 ⟨m2, h3, h4⟩ => ih (listed.setIfInBounds j true) g1 m1 m2 hfree' (ready_mono hr (Ne.symm hji)) h3 ?_) h2
      rw [Array.setIfInBounds_comm _ _ hji]
      exact h4

def freeE (listed : Array Bool) (i : Nat) : Bool :=
  match ops[i]? with
  | none => false
  | some oi => (List.range ops.size).all fun j => j == i || listed.getD j true || match ops[j]? with
      | some oj => oj.after.any (fun e => Region.binds .any e && e.on == i) || apartE ops E i j oi oj
      | none => true
theorem freeE_spec {i : Nat} {oi : Oper} {listed : Array Bool} (hi : ops[i]? = some oi) (h : freeE ops E listed i = true) (j : Nat) (oj : Oper)
    (hj : ops[j]? = some oj) (hne : j ≠ i) (hun : listed.getD j true = false) (hno : ∀ e ∈ oj.after, Region.binds .any e = true → e.on ≠ i) :
    apartE ops E i j oi oj = true := by
  simp only [freeE, hi, List.all_eq_true, List.mem_range] at h
  have h1 := h j (Array.getElem?_eq_some_iff.1 hj).1
  simp only [hj, Bool.or_eq_true, beq_iff_eq, hne, false_or, hun, Bool.false_eq_true] at h1
  rcases h1 with h1 | h1
  · obtain ⟨e, he, hb⟩ := Array.any_eq_true'.1 h1
    simp only [Bool.and_eq_true, beq_iff_eq] at hb
    exact absurd hb.2 (hno e he hb.1)
  · exact h1
def lexE : Nat → Nat → Array Bool → Bool
  | 0, _, listed => (Region.ready .any ops listed).isEmpty
  | fuel + 1, k, listed => (Region.ready .any ops listed).contains k && freeE ops E listed k && lexE fuel (k + 1) (listed.setIfInBounds k true)
/-- The text's order is one, and serves for all. -/
def lexEB : Bool := lexE ops E ops.size 0 (Array.replicate ops.size false)

def textH (Q : GF → HS → Prop) : Nat → Nat → GF → HS → Prop
  | 0, _, g, m => Q g m
  | fuel + 1, k, g, m => qOpH P n ops t E k (textH Q fuel (k + 1)) g m
theorem wpAnyH_lex {Q : GF → HS → Prop} : ∀ (fuel k : Nat) (listed : Array Bool) (g : GF) (m : HS), k + fuel = ops.size → lexE ops E fuel k listed = true → textH P n ops t E Q fuel k g m → wpAnyH P n ops t E Q fuel listed g m
  | 0, _, _, _, _, _, hB, h => ⟨by simpa [lexE] using hB, h⟩
  | fuel + 1, k, listed, g, m, hk, hB, h => by
    have hlt : k < ops.size := by omega
    have h0 : ops[k]? = some ops[k] := Array.getElem?_eq_getElem hlt
    simp only [lexE, Bool.and_eq_true] at hB
    obtain ⟨⟨hr, hf⟩, hB'⟩ := hB
    obtain ⟨e, m', hy, hK⟩ := yf_of_qOp P n ops t E h0 h
    exact wpAnyH_first P n ops t E h0 fuel listed g m m' (freeE_spec ops E h0 hf) (by simpa using hr) hy (wpAnyH_lex fuel (k + 1) _ _ _ (by omega) hB' hK)
end

end Go.Proofs.Hk

set_option linter.unusedSimpArgs false
set_option linter.unusedVariables false
namespace Go.Proofs.Hk
open Go Go.Proofs
/-- A new object by a name that was kept free. -/
def Ghost.newAs (G : Ghost) (r b : Nat) : Ghost :=
  { G with om := fun q => if q = r then some b else G.om q, role := fun b' => if b' = b then some r else G.role b' }
theorem newAs_le {G : Ghost} {s : HS} {w : World} {r : Nat} (h : SRel G ((r, .void) :: s) w) (b0 : Nat) : G.Le (G.newAs r b0) := by
  obtain ⟨h0, h1, h2, h3⟩ := h.holds r .void List.mem_cons_self
  exact ⟨fun _ _ _ e => e, fun q b e => by
    simp only [Ghost.newAs]
    split
    · rename_i hq; subst hq; rw [h1] at e; cases e
    · exact e, fun _ t e => ⟨t, e, Nat.le_refl _, fun _ => rfl⟩⟩
theorem post_newAs {G : Ghost} {s : HS} {w : World} {r : Nat} (h : SRel G ((r, .void) :: s) w) (o : Obj) (x : Res) (hx : holds (G.newAs r w.heap.size) (World.pushed w o) r x) :
    Post ((r, .void) :: s) G w ((r, x) :: s) (G.newAs r w.heap.size) (World.pushed w o) := by
  obtain ⟨h0, h1, h2, h3⟩ := h.holds r .void List.mem_cons_self
  have le : G.Le (G.newAs r w.heap.size) := ⟨fun _ _ _ e => e, fun q b e => by
    simp only [Ghost.newAs]
    split
    · rename_i hq; subst hq; rw [h1] at e; cases e
    · exact e, fun _ t e => ⟨t, e, Nat.le_refl _, fun _ => rfl⟩⟩
  have hb : ∀ b, b < w.heap.size → (World.pushed w o).heap[b]? = w.heap[b]? ∧ (G.newAs r w.heap.size).role b = G.role b ∧ ∀ o, (G.newAs r w.heap.size).K b o = G.K b o := fun b hb =>
    ⟨pushed_lt w o hb, by simp only [Ghost.newAs]; rw [if_neg (by omega)], fun _ => rfl⟩
  have hnd := h.keys
  simp only [keys, List.map_cons, List.nodup_cons] at hnd
  have hv : ∀ q, q ≠ r → G.om q = none → G.top q = none → (∀ b, G.role b ≠ some q) → (G.newAs r w.heap.size).om q = none ∧ (G.newAs r w.heap.size).top q = none ∧ ∀ b, (G.newAs r w.heap.size).role b ≠ some q := fun q hq a1 a2 a3 => by
    simp only [Ghost.newAs]
    refine ⟨by rw [if_neg hq]; exact a1, a2, fun b => ?_⟩
    split
    · simp; exact fun e => hq e.symm
    · exact a3 b
  refine ⟨⟨fun b off v e => pushed_cell w o (h.kw b off v e), ?_, fun q y hy => ?_, fun q hq => ?_, fun b q e => ?_⟩, ⟨le, by simp [World.pushed], fun b hlt _ => hb b hlt, fun _ tp e _ => e, Nat.le_refl _, rfl, rfl, rfl, fun q _ hk a1 a2 a3 => hv q (fun e => hk (by simp [keys, e])) a1 a2 a3⟩, fun q hq => .inl ?_⟩
  · simp only [keys, List.map_cons, List.nodup_cons]; exact hnd
  · rcases List.mem_cons.1 hy with hy | hy
    · cases hy; exact hx
    · have hne : q ≠ r := fun e => hnd.1 (e ▸ List.mem_map.2 ⟨_, hy, rfl⟩)
      have ho := h.holds q y (List.mem_cons_of_mem _ hy)
      cases y with
      | void =>
        obtain ⟨b0, b1, b2, b3⟩ := ho
        obtain ⟨c1, c2, c3⟩ := hv q hne b1 b2 b3
        exact ⟨b0, c1, c2, c3⟩
      | cells cs t =>
        obtain ⟨b, vs, e, ro, hh, hc, hK⟩ := ho
        obtain ⟨k1, k2, k3⟩ := hb b (h.role b q ro).1
        exact ⟨b, vs, le.om q b e, k2.trans ro, k1.trans hh, relCs.mono le _ _ hc, fun o => (k3 o).trans (hK o)⟩
      | map es =>
        obtain ⟨b, ents, cl, e, ro, hh, hc⟩ := ho
        obtain ⟨k1, k2, k3⟩ := hb b (h.role b q ro).1
        exact ⟨b, ents, cl, le.om q b e, k2.trans ro, k1.trans hh, relMap.mono le _ _ hc⟩
      | tok n =>
        obtain ⟨tp, e, hn, hq⟩ := ho
        refine ⟨tp, e, hn, fun hlt => ?_⟩
        obtain ⟨ro, vs, t, hh, hce, hK⟩ := hq hlt
        obtain ⟨k1, k2, k3⟩ := hb tp.b (h.role _ q ro).1
        exact ⟨k2.trans ro, vs, t, k1.trans hh, hce, fun o ho => (k3 o).trans (hK o ho)⟩
  · have := h.fresh q hq
    simp only [Ghost.newAs]
    have hq : G.lim ≤ q := hq
    rw [if_neg (by omega)]
    exact this
  · simp only [Ghost.newAs, World.pushed, Array.size_push] at e ⊢
    split at e
    · rename_i hb; subst hb; cases e; omega
    · have := h.role b q e; omega
  · simpa [keys] using hq
/-- A name is kept free. -/
theorem post_void {G : Ghost} {s : HS} {w : World} (h : SRel G s w) : Post s G w ((G.lim, .void) :: s) { G with lim := G.lim + 1 } w := by
  have hr : ∀ b, G.role b ≠ some G.lim := fun b e => absurd (h.role b _ e).2 (by omega)
  have le : G.Le { G with lim := G.lim + 1 } := ⟨fun _ _ _ e => e, fun _ _ e => e, fun _ t e => ⟨t, e, Nat.le_refl _, fun _ => rfl⟩⟩
  refine ⟨⟨h.kw, ?_, fun q y hy => ?_, fun q hq => h.fresh q (by have hq : G.lim + 1 ≤ q := hq; omega), fun b q e => ⟨(h.role b q e).1, by have := (h.role b q e).2; show q < G.lim + 1; omega⟩⟩, ⟨le, Nat.le_refl _, fun _ _ _ => ⟨rfl, rfl, fun _ => rfl⟩, fun _ _ e _ => e, by simp, rfl, rfl, rfl, fun _ _ _ a b c => ⟨a, b, c⟩⟩, fun q hq => ?_⟩
  · simp only [keys, List.map_cons, List.nodup_cons]
    exact ⟨fun hm => by have := h.lt_key hm; omega, h.keys⟩
  · rcases List.mem_cons.1 hy with hy | hy
    · cases hy; exact ⟨by simp, (h.fresh _ (Nat.le_refl _)).1, (h.fresh _ (Nat.le_refl _)).2, hr⟩
    · exact (h.holds q y hy).agree h le (fun b _ => ⟨rfl, rfl, fun _ => rfl⟩) (fun _ _ e => e) (fun q a b c d => ⟨by show q < G.lim + 1; omega, b, c, d⟩)
  · simp only [keys, List.map_cons, List.mem_cons] at hq
    rcases hq with rfl | hq
    · exact .inr (Nat.le_refl _)
    · exact .inl hq
theorem drawVoid {P : Program} {n id : Nat} {ops : Array Oper} {Q : HExit → Fr → HS → Prop} {a : Fr} {s : HS} (h : ∀ r, r ∉ keys s → DrawReg P n id ops Q a ((r, .void) :: s)) : DrawReg P n id ops Q a s :=
  ⟨⟨fun G w ra hs hf => by
    have hp := post_void hs
    exact (h G.lim (fun hm => by have := hs.lt_key hm; omega)).out.lift hs hp (hf.mono hp.ext.le)⟩⟩
theorem newAs_ok (P : Program) {s : HS} {G : Ghost} {w : World} {r : Nat} (hs : SRel G ((r, .void) :: s) w) (t : TypeId) {x : HV} {u : Value} (hx : rel G x u) (hk : kdOk x = true) :
    Gives ((r, .void) :: s) G w ((do pure (Next.value (← (do pure (Value.pointer (some (← newVar t u)))))) : Sem Next).run P w) (.ptr r 0) ((r, .cells x.cells t) :: s) := by
  have hc := rel_cells hx (kdOk_ne hk)
  have hp : Post ((r, .void) :: s) G w ((r, .cells x.cells t) :: s) (G.newAs r w.heap.size) (World.pushed w (.cells u.cells t)) := by
    refine post_newAs hs _ _ ⟨w.heap.size, u.cells, by simp [Ghost.newAs], by simp [Ghost.newAs], pushed_new w _, ?_, fun o => hs.K_new (Nat.le_refl _) o⟩
    exact relCs.mono (newAs_le hs _) _ _ hc
  refine ⟨.pointer (some ⟨w.heap.size, 0, none⟩), World.pushed w (.cells u.cells t), G.newAs r w.heap.size, .inl ?_, ptr_rel (by simp [Ghost.newAs]), hp⟩
  simp [newVar, newRow, Go.newObj, Sem.run, World.pushed]
end Go.Proofs.Hk

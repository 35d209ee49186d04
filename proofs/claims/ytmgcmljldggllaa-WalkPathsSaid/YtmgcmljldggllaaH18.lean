import Derived.Test.YtmgcmljldggllaaH17
set_option linter.unusedSimpArgs false
set_option linter.unusedVariables false
namespace Go.Proofs.Hk
open Go

def memN (x : Nat) : List Nat → Bool
  | [] => false
  | y :: l => match Nat.beq x y with
    | true => true
    | false => memN x l
theorem memN_iff {x : Nat} : ∀ {l : List Nat}, memN x l = true ↔ x ∈ l
  | [] => by simp [memN]
  | y :: l => by
    simp only [memN]
    split
    · rename_i h; simp [Nat.eq_of_beq_eq_true h]
    · rename_i h
      have : x ≠ y := fun e => by subst e; simp at h
      simp [this, memN_iff]
theorem memN_contains {x : Nat} {l : List Nat} : memN x l = l.contains x := by
  have := memN_iff (x := x) (l := l)
  cases h : memN x l with
  | true => rw [h] at this; simp at this; simp [this]
  | false => rw [h] at this; simp at this; simp [this]
def Fr.only (S : List Tmp) : Fr → Fr
  | [] => []
  | (t, e) :: a => match memN t S with
    | true => (t, e) :: Fr.only S a
    | false => Fr.only S a
theorem only_get (S : List Tmp) : ∀ (a : Fr) (t : Tmp), (Fr.only S a).get t = if memN t S = true then a.get t else none
  | [], t => by simp [Fr.only, Fr.get]
  | (t', e) :: a, t => by
    simp only [Fr.only]
    split
    · rename_i h
      simp only [Fr.get]
      split
      · rename_i h'
        have := Nat.eq_of_beq_eq_true h'
        subst this
        rw [if_pos h]
      · exact only_get S a t
    · rename_i h
      rw [only_get S a t]
      simp only [Fr.get]
      cases h' : Nat.beq t' t with
      | true =>
        have := Nat.eq_of_beq_eq_true h'
        subst this
        rw [h]; simp
      | false => rfl
theorem FOn.rel {S : List Tmp} {G : Ghost} {n : Nat} {a : Fr} {ra : Act} (h : FOn S G n (fun t => a.get t) ra) : FRel G n (Fr.only S a) ra :=
  ⟨h.size, h.defers, fun t tg x e => by
    rw [only_get] at e
    split at e
    · rename_i hm; exact h.slots t (memN_iff.1 hm) tg x e
    · cases e⟩

structure ECall (c : Cx) (f : FuncId) (xs : List HV) (s : HS) (x : HV) (s' : HS) : Prop where
  out : HCalls c.P f xs s fun e s1 => e = .ret x ∧ s1 = s'

/-- What is asked of an operation that changes nothing. -/
def OpRes.quiet (c : Cx) (t : HS) (tg : Tag) (K : HV → Prop) : OpRes → Prop
  | .pure x => K x
  | .val φ x => match tg with
    | .sure => Side φ (K x)
    | .cond b => Side (b = true → φ) (K x)
  | .call φ f xs => match tg with
    | .sure => QAsk True c f xs t φ K
    | .cond b => QAsk (b = true) c f xs t φ K
  | .look r k => Look t r fun x => OpRes.quiet c t tg K (k x)
  | _ => False
/-- Of one that turns m. -/
def OpRes.turns (c : Cx) (m t : HS) (K : HV → HS → Prop) : OpRes → Prop
  | .pure x => K x m
  | .val φ x => Side φ (K x m)
  | .eff W => ∃ x m', (W fun y s' => y = x ∧ s' = m' ++ t) ∧ K x m'
  | .call φ f xs => ∃ x m', (φ ∧ ECall c f xs (m ++ t) x (m' ++ t)) ∧ K x m'
  | .look r k => Look (m ++ t) r fun x => OpRes.turns c m t K (k x)
  | _ => False

def drawWp (c : Cx) (n : Nat) (all : Array Oper) (t : HS) (E : List Nat) (Q : HExit → Fr → HS → Prop) : List Oper → Nat → Fr → HS → Prop
  | [], _, a, m => forceL (m ++ t) (Q .normal a)
  | o :: rest, k, a, m => match active all (Fr.only (o.looksAt all) a) o with
    | none => False
    | some tg => match memN k E with
      | false => (hop c o.op (Fr.only (o.looksAt all) a) t).quiet c t tg fun x => match hput n o.dst tg x a with
        | none => False
        | some a' => drawWp c n all t E Q rest (k + 1) a' m
      | true => match tg with
        | .cond _ => False
        | .sure => ((hop c o.op (Fr.only (o.looksAt all) a) (m ++ t)).turns c m t fun x m' => match hput n o.dst .sure x a with
            | none => False
            | some a' => drawWp c n all t E Q rest (k + 1) a' m') ∨
          ∃ tt z r m0 a', o.op = .alloc tt ∧ hzero c tt = some z ∧ kdOk z = true ∧ m = (r, .void) :: m0 ∧ hput n o.dst .sure (.ptr r 0) a = some a' ∧ drawWp c n all t E Q rest (k + 1) a' ((r, .cells z.cells tt) :: m0)

theorem opTo_gives {P : Program} {o : Oper} {ra : Act} {s s' : HS} {G : Ghost} {w : World} {x : HV} (h : Gives s G w ((execOp ra.eval o).run P w) x s') : OpTo P o ra w fun u w' => ∃ G', rel G' x u ∧ Post s G w s' G' w' := by
  obtain ⟨u, w', G', hy, hr, hp⟩ := h
  unfold OpTo
  rcases hy with e | ⟨e, rfl⟩ <;> rw [e] <;> exact ⟨G', hr, hp⟩
theorem OpTo.mono {P : Program} {o : Oper} {ra : Act} {w : World} {R R' : Value → World → Prop} (h : OpTo P o ra w R) (hr : ∀ u w', R u w' → R' u w') : OpTo P o ra w R' := by
  unfold OpTo at *
  split at h
  · exact hr _ _ h
  · exact hr _ _ h
  · exact h.mono fun e w'' ⟨u, he, hR⟩ => ⟨u, he, hr _ _ hR⟩
  · exact h
theorem opTo_call {c : Cx} {o : Oper} {ra : Act} {s s' : HS} {G : Ghost} {w : World} {f : FuncId} {vs : Array Value} {xs : List HV} {x : HV} (hs : SRel G s w) (hr : (execOp ra.eval o).run c.P w = .ok (.enter f vs) w) (hx : relVs G xs vs.toList)
    (hc : HCalls c.P f xs s fun e s1 => e = .ret x ∧ s1 = s') : OpTo c.P o ra w fun u w' => ∃ G', rel G' x u ∧ Post s G w s' G' w' := by
  unfold OpTo
  rw [hr]
  refine (hc.out G w vs hs hx).mono fun e w'' ⟨he, s1, G', ⟨h1, h2⟩, h3, h4⟩ => ?_
  subst h1 h2
  cases e <;> first | exact h3.elim | skip
  exact ⟨_, rfl, G', h3, h4⟩

theorem SRel.right {G : Ghost} {s t : HS} {w : World} (h : SRel G (s ++ t) w) : SRel G t w := h.perm (List.sublist_append_right s t)

theorem hput_get {n : Nat} {dst : Option Tmp} {tg : Tag} {x : HV} {a a' : Fr} (h : hput n dst tg x a = some a') : (fun t => a'.get t) = gput (fun t => a.get t) dst (tg, x) ∧ ∀ d, dst = some d → d < n := by
  unfold hput at h
  split at h
  · cases h; exact ⟨rfl, fun d e => by cases e⟩
  · rename_i d
    split at h
    · rename_i hd
      cases h
      refine ⟨?_, fun d' e => by cases e; simpa [Nat.blt_eq] using hd⟩
      funext t
      simp only [Fr.get, gput]
      split
      · rename_i h'; rw [if_pos (Nat.eq_of_beq_eq_true h').symm]
      · rename_i h'
        rw [if_neg]
        intro e; subst e; simp at h'
    · cases h

theorem drawWp_text (c : Cx) (n : Nat) (all : Array Oper) (t : HS) (E : List Nat) (Q : HExit → Fr → HS → Prop) :
    ∀ (l : List Oper) (k : Nat), all.toList.drop k = l → ∀ (a : Fr) (m : HS), drawWp c n all t E Q l k a m →
      textH c.P n all t E (fun g m => ∃ a', (fun t => a'.get t) = g ∧ Q .normal a' (m ++ t)) l.length k (fun t => a.get t) m := by
  intro l
  induction l with
  | nil =>
    intro k _ a m h
    refine ⟨a, rfl, ?_⟩
    simp only [drawWp, forceL_eq] at h
    exact h
  | cons o rest ih =>
    intro k hk a m h
    have hko : all[k]? = some o := by
      have : (all.toList.drop k)[0]? = some o := by rw [hk]; rfl
      rw [List.getElem?_drop] at this
      simpa using this
    have hrest : all.toList.drop (k + 1) = rest := by rw [← List.drop_drop, hk]; rfl
    simp only [List.length_cons, textH, qOpH, hko]
    simp only [drawWp] at h
    split at h
    · exact h.elim
    · rename_i tg hact
      have hwant : ∀ {G : Ghost} {ra : Act}, FOn (o.looksAt all) G n (fun t => a.get t) ra → Region.wanted o (yielded all ra.tmps) = tgB tg := fun hf => by
        have := active_ok hf.rel hact
        cases tg <;> exact this
      have step : ∀ {x : HV} {m' : HS}, (match hput n o.dst tg x a with | none => False | some a' => drawWp c n all t E Q rest (k + 1) a' m') →
          (∀ d, o.dst = some d → d < n) ∧ textH c.P n all t E (fun g m => ∃ a', (fun t => a'.get t) = g ∧ Q .normal a' (m ++ t)) rest.length (k + 1) (gput (fun t => a.get t) o.dst (tg, x)) m' := fun {x m'} h => by
        split at h
        · exact h.elim
        · rename_i a' ha
          obtain ⟨h1, h2⟩ := hput_get ha
          exact ⟨h2, h1 ▸ ih (k + 1) hrest a' m' h⟩
      split at h
      · rename_i hE
        rw [← memN_contains, hE]
        have quiet : ∀ {x : HV}, (∀ d, o.dst = some d → d < n) → (∀ G w ra, SRel G t w → FRel G n (Fr.only (o.looksAt all) a) ra → tgB tg = true → OpTo c.P o ra w fun u w' => ∃ G', rel G' x u ∧ Post t G w t G' w') → YQ c.P n all t o (fun t => a.get t) (tg, x) := fun hd hy m =>
          ⟨hd, fun G w ra hs hf => ⟨hwant hf, fun hb => (hy G w ra hs.right hf.rel hb).mono fun u w' ⟨G', hr, hp⟩ => ⟨G', hr, hp.frameL hs⟩⟩⟩
        have sem : ∀ G w ra, SRel G t w → FRel G n (Fr.only (o.looksAt all) a) ra → ResOK c.P t G w ((execOp ra.eval o).run c.P w) (hop c o.op (Fr.only (o.looksAt all) a) t) := fun G w ra hs hf => hop_ok c hs hf o
        generalize hop c o.op (Fr.only (o.looksAt all) a) t = q at h sem
        induction q with
        | bad => exact h.elim
        | pan φ x => exact h.elim
        | eff W => exact h.elim
        | pure x =>
          obtain ⟨hd, hK⟩ := step h
          exact ⟨(tg, x), quiet hd fun G w ra hs hf _ => opTo_gives (sem G w ra hs hf), hK⟩
        | val φ x =>
          have h : (tgB tg = true → φ) ∧ (match hput n o.dst tg x a with | none => False | some a' => drawWp c n all t E Q rest (k + 1) a' m) := by
            cases tg with
            | sure => exact ⟨fun _ => h.1, h.2⟩
            | cond b => exact ⟨h.1, h.2⟩
          obtain ⟨hφ, h⟩ := h
          obtain ⟨hd, hK⟩ := step h
          exact ⟨(tg, x), quiet hd fun G w ra hs hf hb => opTo_gives (sem G w ra hs hf (hφ hb)), hK⟩
        | call φ f xs =>
          have h : ∃ x, (tgB tg = true → φ ∧ QCall c f xs t x) ∧ (match hput n o.dst tg x a with | none => False | some a' => drawWp c n all t E Q rest (k + 1) a' m) := by
            cases tg with
            | sure => obtain ⟨x, h1, h2⟩ := h; exact ⟨x, fun _ => h1 trivial, h2⟩
            | cond b => obtain ⟨x, h1, h2⟩ := h; exact ⟨x, h1, h2⟩
          obtain ⟨x, hφ, h⟩ := h
          obtain ⟨hd, hK⟩ := step h
          refine ⟨(tg, x), quiet hd fun G w ra hs hf hb => ?_, hK⟩
          have hφ := hφ hb
          obtain ⟨vs, hr, hx⟩ := sem G w ra hs hf hφ.1
          exact opTo_call hs hr hx hφ.2.out
        | look r k ihq =>
          obtain ⟨x, hx, h⟩ := h
          exact ihq x h fun G w ra hs hf => sem G w ra hs hf x hx
      · rename_i hE
        rw [← memN_contains, hE]
        split at h
        · exact h.elim
        · rcases h with h | ⟨tt, z, r, m0, a', hop', hz, hk', rfl, hpt, h⟩
          rotate_left
          · obtain ⟨hd, hK⟩ := step (x := .ptr r 0) (m' := (r, .cells z.cells tt) :: m0) (by rw [hpt]; exact h)
            refine ⟨(.sure, .ptr r 0), (r, .cells z.cells tt) :: m0, rfl, ⟨hd, fun G w ra hs hf => ⟨hwant hf, fun _ => opTo_gives ?_⟩⟩, hK⟩
            obtain ⟨d, hd', hr⟩ := zero_ok c (G := G) hz
            have ht := c.ty_ok tt d hd'
            have := newAs_ok c.P (s := m0 ++ t) hs tt hr hk'
            have e : (execOp ra.eval o).run c.P w = (do pure (Next.value (← (do pure (Value.pointer (some (← newVar tt d.zero)))))) : Sem Next).run c.P w := by
              simp [execOp, hop', Instr.alloc, ht.zero]
            rw [e]
            exact this
          have sem : ∀ G w ra, SRel G (m ++ t) w → FRel G n (Fr.only (o.looksAt all) a) ra → ResOK c.P (m ++ t) G w ((execOp ra.eval o).run c.P w) (hop c o.op (Fr.only (o.looksAt all) a) (m ++ t)) := fun G w ra hs hf => hop_ok c hs hf o
          generalize hop c o.op (Fr.only (o.looksAt all) a) (m ++ t) = q at h sem
          induction q with
          | bad => exact h.elim
          | pan φ x => exact h.elim
          | pure x =>
            obtain ⟨hd, hK⟩ := step h
            exact ⟨(.sure, x), m, rfl, ⟨hd, fun G w ra hs hf => ⟨hwant hf, fun _ => opTo_gives (sem G w ra hs hf.rel)⟩⟩, hK⟩
          | val φ x =>
            obtain ⟨hφ, h⟩ := h
            obtain ⟨hd, hK⟩ := step h
            exact ⟨(.sure, x), m, rfl, ⟨hd, fun G w ra hs hf => ⟨hwant hf, fun _ => opTo_gives (sem G w ra hs hf.rel hφ)⟩⟩, hK⟩
          | eff W =>
            obtain ⟨x, m', hW, h⟩ := h
            obtain ⟨hd, hK⟩ := step h
            refine ⟨(.sure, x), m', rfl, ⟨hd, fun G w ra hs hf => ⟨hwant hf, fun _ => ?_⟩⟩, hK⟩
            obtain ⟨y, s', ⟨rfl, rfl⟩, hg⟩ := sem G w ra hs hf.rel _ hW
            exact opTo_gives hg
          | call φ f xs =>
            obtain ⟨x, m', hW, h⟩ := h
            obtain ⟨hd, hK⟩ := step h
            refine ⟨(.sure, x), m', rfl, ⟨hd, fun G w ra hs hf => ⟨hwant hf, fun _ => ?_⟩⟩, hK⟩
            obtain ⟨vs, hr, hx⟩ := sem G w ra hs hf.rel hW.1
            exact opTo_call hs hr hx hW.2.out
          | look r k ihq =>
            obtain ⟨x, hx, h⟩ := h
            exact ihq x h fun G w ra hs hf => sem G w ra hs hf x hx

/-- A region whose order is drawn, by one walk of the text's order. m: what is turned, by the operations E alone; t: what the others may read. -/
theorem drawReg (c : Cx) {n id : Nat} {ops : Array Oper} {Q : HExit → Fr → HS → Prop} {a : Fr} {s : HS} (m t : HS) (E : List Nat) (hp : (m ++ t).Perm s) (hB : lexEB ops E = true)
    (h : drawWp c n ops t E Q ops.toList 0 a m) : DrawReg c.P n id ops Q a s :=
  ⟨⟨fun G w ra hs hf => by
    have hs' : SRel G (m ++ t) w := hs.permd hp.symm
    refine wp_region_any c.orders ?_
    have h1 := drawWp_text c n ops t E Q ops.toList 0 rfl a m h
    have h2 := wpAnyH_lex c.P n ops t E ops.size 0 _ _ _ (by simp) hB (by rw [← Array.length_toList]; exact h1)
    have hp0 : Post (m ++ t) G w (m ++ t) G { w with drawn := w.drawn + 1 } := Post.drawn hs' rfl rfl rfl rfl
    refine wpAny_of_H c.P n ops t E hs' (fun g m' G' w' ra' hp' hf' ⟨a', e, hQ⟩ => ?_) ops.size _ _ m G _ ra hp0 ⟨hf.size, hf.defers, hf.slots⟩ h2
    subst e
    exact ⟨.normal, a', m' ++ t, G', hQ, trivial, ⟨hf'.size, hf'.defers, hf'.slots⟩, hp'.permL hp⟩⟩⟩
/-- The same where nothing is turned. -/
theorem drawQ (c : Cx) {n id : Nat} {ops : Array Oper} {Q : HExit → Fr → HS → Prop} {a : Fr} {s : HS} (hB : lexEB ops [] = true) (h : drawWp c n ops s [] Q ops.toList 0 a []) : DrawReg c.P n id ops Q a s :=
  drawReg c [] s [] (by simp) hB h

end Go.Proofs.Hk

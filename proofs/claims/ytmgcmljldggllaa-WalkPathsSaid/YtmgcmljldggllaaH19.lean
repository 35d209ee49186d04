import Derived.Test.YtmgcmljldggllaaH18
import Derived.IntWalk
set_option linter.unusedSimpArgs false
set_option linter.unusedVariables false
namespace Go.Proofs.Hk
open Go

theorem Sub.nil (b : Fr) : Fr.Sub [] b := fun t g x h => by simp [Fr.get] at h
theorem Sub.cons {t : Nat} {g : Tag} {x y : HV} {a b : Fr} (h : b.get t = some (g, x)) (hy : x = y) (k : Fr.Sub a b) : Fr.Sub ((t, g, y) :: a) b := fun u g' x' e => by
  subst hy
  simp only [Fr.get] at e
  split at e
  · rename_i ht
    have := Nat.eq_of_beq_eq_true ht
    subst this
    cases e; exact h
  · exact k u g' x' e
theorem Sub.refl (a : Fr) : a.Sub a := fun _ _ _ h => h

/-- A part of a state. -/
def Subp (s' s : HS) : Prop := ∃ s1, s1.Perm s ∧ s'.Sublist s1
theorem Subp.refl (s : HS) : Subp s s := ⟨s, .refl s, .refl s⟩
theorem Subp.of_eq {s' s : HS} (h : s = s') : Subp s' s := h ▸ .refl s
theorem Subp.srel {G : Ghost} {s s' : HS} {w : World} (h : SRel G s w) (p : Subp s' s) : SRel G s' w := by
  obtain ⟨s1, h1, h2⟩ := p
  exact (h.permd h1.symm).perm h2
theorem Subp.mem {s' s : HS} (p : Subp s' s) : ∀ x, x ∈ s' → x ∈ s := by
  obtain ⟨s1, h1, h2⟩ := p
  exact fun x hx => h1.mem_iff.1 (h2.subset hx)
theorem Subp.nil (s : HS) : Subp [] s := ⟨s, .refl s, s.nil_sublist⟩
theorem Subp.skip {s' s : HS} (p : Subp s' s) (x : Nat × Res) : Subp s' (x :: s) := by
  obtain ⟨s1, h1, h2⟩ := p
  exact ⟨x :: s1, h1.cons x, h2.cons x⟩
theorem Subp.keep {s' s : HS} (p : Subp s' s) (x : Nat × Res) : Subp (x :: s') (x :: s) := by
  obtain ⟨s1, h1, h2⟩ := p
  exact ⟨x :: s1, h1.cons x, h2.cons_cons x⟩
theorem Subp.perm {s' s s2 : HS} (p : Subp s' s) (h : s.Perm s2) : Subp s' s2 := by
  obtain ⟨s1, h1, h2⟩ := p
  exact ⟨s1, h1.trans h, h2⟩
theorem Subp.post {s s1 s' : HS} {G G' : Ghost} {w w' : World} (p : Subp s' s1) (k : Post s G w s1 G' w') : Post s G w s' G' w' :=
  k.sub (p.srel k.srel).keys p.mem

/-- More than is wanted may be left. -/
theorem SemWp.less {P : Program} {n : Nat} {code : Code} {Q : HExit → Fr → HS → Prop} {a : Fr} {s s' : HS} (p : Subp s' s) (h : SemWp P n code Q a s') : SemWp P n code Q a s :=
  ⟨fun G w ra hs hf => wp_mono (h.out G w ra (p.srel hs) hf) fun _ _ _ ⟨he, a', s1, G', q, hr, hf', hp⟩ => by
    refine ⟨he, a', s1, G', q, hr, hf', hp.srel, ?_, fun r hr => ?_⟩
    · exact ⟨hp.ext.le, hp.ext.size, fun b hb hq => hp.ext.blocks b hb (fun r e hk => hq r e (by
        obtain ⟨x, hx, rfl⟩ := List.mem_map.1 hk
        exact List.mem_map.2 ⟨x, p.mem x hx, rfl⟩)), fun r tp e hq => hp.ext.tops r tp e (fun hk => hq (by
        obtain ⟨x, hx, rfl⟩ := List.mem_map.1 hk
        exact List.mem_map.2 ⟨x, p.mem x hx, rfl⟩)), hp.ext.lim, hp.ext.os, hp.ext.tape, hp.ext.output, fun r h0 hq => hp.ext.voids r h0 (fun hk => hq (by
        obtain ⟨x, hx, rfl⟩ := List.mem_map.1 hk
        exact List.mem_map.2 ⟨x, p.mem x hx, rfl⟩))⟩
    · refine (hp.names r hr).imp (fun hk => ?_) id
      obtain ⟨x, hx, rfl⟩ := List.mem_map.1 hk
      exact List.mem_map.2 ⟨x, p.mem x hx, rfl⟩⟩

/-- A loop. i: what changes from round to round. -/
theorem hloop (c : Cx) {n : Nat} {b : Code} {Q : HExit → Fr → HS → Prop} {a : Fr} {s : HS} {ι : Type} (J : ι → Prop) (F : ι → Fr) (S : ι → HS) (μ : ι → Nat) (i0 : ι) (hJ : J i0) (hF : (F i0).Sub a) (hS : Subp (S i0) s)
    (round : ∀ i, J i → hwp c n b (fun e a s => match e with | .normal => Fin (∃ i', J i' ∧ μ i' < μ i ∧ (F i').Sub a ∧ Subp (S i') s) | e => Q e a s) (F i) (S i)) : hwp c n (.loop b) Q a s := by
  refine SemWp.loop (fun m a s => ∃ i, μ i = m ∧ J i ∧ (F i).Sub a ∧ Subp (S i) s) (μ i0) ⟨i0, rfl, hJ, hF, hS⟩ ?_
  rintro m a s ⟨i, rfl, hJ, hF, hS⟩
  refine SemWp.less hS (SemWp.forget ((hwp_sound c n b _ _ _ (round i hJ)).mono fun e a s q => ?_) hF)
  cases e with
  | normal =>
    obtain ⟨⟨i', h1, h2, h3, h4⟩⟩ := q
    exact ⟨μ i', h2, i', rfl, h1, h3, h4⟩
  | exit j => exact q
  | ret => exact q
  | pan x => exact q

/-- A piece by what holds behind it. -/
theorem hcut (c : Cx) {n : Nat} {code : Code} {Q : HExit → Fr → HS → Prop} {a a' : Fr} {s s' : HS} (hF : a'.Sub a) (hS : Subp s' s) (h : hwp c n code Q a' s') : SemWp c.P n code Q a s :=
  SemWp.less hS (SemWp.forget (hwp_sound c n code Q a' s' h) hF)

/-- What tells less. -/
def Weaker (x y : HV) : Prop := ∀ G u, rel G x u → rel G y u
theorem Weaker.refl (x : HV) : Weaker x x := fun _ _ h => h
theorem Weaker.tok (t : Tok) (sz : Nat) (l : List HV) : Weaker (.list t sz l) (.list .no sz l) := fun G u h => by
  rcases (rel_list h).imp id or_comm.1 with ⟨rfl, rfl, _⟩ | ⟨rfl, _, a, rfl⟩ | ⟨b, o, c, rfl, h1, h2, _⟩
  · exact list_rel_nil trivial
  · exact list_rel_odd a (fun _ _ => by simp)
  · exact list_rel h1 h2 trivial
theorem Weaker.nil (sz : Nat) : Weaker (.v (.slice none 0 0)) (.list .no sz []) := fun G u h => by
  rw [rel_v_eq h]; exact list_rel_nil trivial
theorem Weaker.nilFull (sz : Nat) : Weaker (.v (.slice none 0 0)) (.list .full sz []) := fun G u h => by
  rw [rel_v_eq h]; exact list_rel_nil trivial
inductive WeakerL : List HV → List HV → Prop
  | nil : WeakerL [] []
  | cons {x y : HV} {l m : List HV} (h : Weaker x y) (k : WeakerL l m) : WeakerL (x :: l) (y :: m)
theorem WeakerL.relVs {l m : List HV} (h : WeakerL l m) {G : Ghost} : ∀ {us : List Value}, relVs G l us → relVs G m us := by
  induction h with
  | nil => exact fun h => h
  | cons h _ ih =>
    intro us hu
    rw [relVs_cons] at hu ⊢
    obtain ⟨u, us', rfl, h1, h2⟩ := hu
    exact ⟨u, us', rfl, h G u h1, ih h2⟩
theorem Weaker.tup {l m : List HV} (h : WeakerL l m) : Weaker (.tup l) (.tup m) := fun G u hu => by
  obtain ⟨us, rfl, hv⟩ := rel_tup_inv hu
  simpa using tup_rel (h.relVs hv)
inductive WeakerE : HEnd → HEnd → Prop
  | ret {x y : HV} (h : Weaker x y) : WeakerE (.ret x) (.ret y)
  | pan {x y : HV} (h : Weaker x y) : WeakerE (.pan x) (.pan y)
theorem HCalls.weaken {P : Program} {f : FuncId} {args : List HV} {s : HS} {R R' : HEnd → HS → Prop} (h : HCalls P f args s R) (hr : ∀ e s1, R e s1 → ∃ e' s2, WeakerE e e' ∧ Subp s2 s1 ∧ R' e' s2) : HCalls P f args s R' :=
  ⟨fun G w vs hs ha => (h.out G w vs hs ha).mono fun e w' ⟨he, s1, G', hR, k, kp⟩ => by
    obtain ⟨e', s2, h1, h2, h3⟩ := hr he s1 hR
    refine ⟨e', s2, G', h3, ?_, h2.post kp⟩
    cases h1 with
    | ret hw => cases e <;> first | exact k.elim | exact hw G' _ k
    | pan hw =>
      cases e <;> first | exact k.elim | skip
      obtain ⟨u, e1, e2⟩ := k
      exact ⟨u, e1, hw G' _ e2⟩⟩

/-- At a call. -/
theorem callWp (c : Cx) {f : FuncId} {xs : List HV} {s : HS} {K E : HV → HS → Prop} {R : HEnd → HS → Prop} (h : HCalls c.P f xs s R) (hr : ∀ x s', R (.ret x) s' → K x s') (he : ∀ x s', R (.pan x) s' → E x s') : CallWp c f xs s K E :=
  ⟨h.mono fun e s' hR => by
    cases e with
    | ret x => exact hr x s' hR
    | pan x => exact he x s' hR⟩
/-- What a function comes to, when it changes nothing. -/
structure Pur (c : Cx) (f : FuncId) (xs : List HV) (x : HV) : Prop where
  out : HCalls c.P f xs [] fun e s => e = .ret x ∧ s = []
theorem Pur.calls {c : Cx} {f : FuncId} {xs : List HV} {x : HV} (h : Pur c f xs x) (s : HS) : HCalls c.P f xs s fun e s' => e = .ret x ∧ s' = s :=
  HCalls.use (s := []) (t := s) h.out (by simp) fun e s1 ⟨h1, h2⟩ => ⟨h1, by rw [h2]; rfl⟩
theorem Pur.call {c : Cx} {f : FuncId} {xs : List HV} {x : HV} (h : Pur c f xs x) {s : HS} {K E : HV → HS → Prop} (hk : K x s) : CallWp c f xs s K E :=
  callWp c (h.calls s) (fun y s' ⟨h1, h2⟩ => by cases h1; rw [h2]; exact hk) (fun y s' ⟨h1, _⟩ => by cases h1)
theorem Pur.q {c : Cx} {f : FuncId} {xs : List HV} {x : HV} (h : Pur c f xs x) (s : HS) : QCall c f xs s x := ⟨h.calls s⟩

theorem br_true {b : Bool} {X Y : Prop} (hb : b = true) (x : X) : Br b X Y := ⟨fun _ => x, fun h => by rw [hb] at h; cases h⟩
theorem br_false {b : Bool} {X Y : Prop} (hb : b = false) (y : Y) : Br b X Y := ⟨(fun h => by rw [hb] at h; cases h), fun _ => y⟩
theorem br_split {b : Bool} {X Y : Prop} (x : b = true → X) (y : b = false → Y) : Br b X Y := ⟨x, y⟩

theorem br_dec {p : Prop} [Decidable p] {X Y : Prop} (x : p → X) (y : ¬ p → Y) : Br (decide p) X Y := ⟨fun h => x (of_decide_eq_true h), fun h => y (of_decide_eq_false h)⟩
theorem br_beq {a b : Int} {X Y : Prop} (x : a = b → X) (y : ¬ a = b → Y) : Br (a == b) X Y := ⟨fun h => x (by simpa using h), fun h => y (by simpa using h)⟩
theorem br_bne {a b : Int} {X Y : Prop} (x : ¬ a = b → X) (y : a = b → Y) : Br (a != b) X Y := ⟨fun h => x (by simpa using h), fun h => y (by simpa using h)⟩
theorem br_not {b : Bool} {X Y : Prop} (x : b = false → X) (y : b = true → Y) : Br (!b) X Y := ⟨fun h => x (by simpa using h), fun h => y (by simpa using h)⟩
theorem br_dec_t {p : Prop} [Decidable p] {X Y : Prop} (h : p) (x : X) : Br (decide p) X Y := br_dec (fun _ => x) (fun n => absurd h n)
theorem br_dec_f {p : Prop} [Decidable p] {X Y : Prop} (h : ¬ p) (y : Y) : Br (decide p) X Y := br_dec (fun n => absurd n h) (fun _ => y)
theorem br_beq_t {a b : Int} {X Y : Prop} (h : a = b) (x : X) : Br (a == b) X Y := br_beq (fun _ => x) (fun n => absurd h n)
theorem br_beq_f {a b : Int} {X Y : Prop} (h : ¬ a = b) (y : Y) : Br (a == b) X Y := br_beq (fun n => absurd n h) (fun _ => y)
theorem br_bne_t {a b : Int} {X Y : Prop} (h : ¬ a = b) (x : X) : Br (a != b) X Y := br_bne (fun _ => x) (fun n => absurd n h)
theorem br_bne_f {a b : Int} {X Y : Prop} (h : a = b) (y : Y) : Br (a != b) X Y := br_bne (fun n => absurd h n) (fun _ => y)
theorem hget_hit (r : Nat) (x : Res) (s : HS) : hget ((r, x) :: s) r = some x := by simp [hget_cons]
theorem hget_miss {q r : Nat} (x : Res) (s : HS) (h : q ≠ r) : hget ((q, x) :: s) r = hget s r := by simp [hget_cons, h]
theorem Look.hit {r : Nat} {x : Res} {s : HS} {K : Res → Prop} (h : K x) : Look ((r, x) :: s) r K := ⟨x, hget_hit r x s, h⟩
theorem Look.miss {q r : Nat} {y : Res} {s : HS} {K : Res → Prop} (hq : q ≠ r) (h : Look s r K) : Look ((q, y) :: s) r K := by
  obtain ⟨x, hx, h⟩ := h
  exact ⟨x, (hget_miss y s hq).trans hx, h⟩
theorem Pur.ask {c : Cx} {f : FuncId} {xs : List HV} {x : HV} (h : Pur c f xs x) {on : Prop} {t : HS} {φ : Prop} {K : HV → Prop} (hφ : on → φ) (hk : K x) : QAsk on c f xs t φ K := ⟨x, fun h1 => ⟨hφ h1, h.q t⟩, hk⟩
theorem Pur.askC {c : Cx} {f : FuncId} {xs : List HV} {x : HV} (h : Pur c f xs x) {b : Bool} {t : HS} {φ on off : Prop} {K : HV → Prop} (hφ : b = true → φ) (hk : K x) : CallC c b f xs t φ K on off := ⟨.inl (h.ask hφ hk)⟩
theorem CallC.two {c : Cx} {b : Bool} {f : FuncId} {xs : List HV} {s : HS} {φ : Prop} {K : HV → Prop} {on off : Prop} (h : Br b (Side φ on) off) : CallC c b f xs s φ K on off := ⟨.inr h⟩
theorem hset_hit (r : Nat) (x y : Res) (s : HS) : hset ((r, x) :: s) r y = (r, y) :: s := by simp [hset_cons]
theorem hset_miss {q r : Nat} (x y : Res) (s : HS) (h : q ≠ r) : hset ((q, x) :: s) r y = (q, x) :: hset s r y := by simp [hset_cons, h]


/-- What is left of a round. -/
def hround (R : Fr → HS → Prop) (Q : HExit → Fr → HS → Prop) : HExit → Fr → HS → Prop
  | .normal, a, s => Fin (R a s)
  | e, a, s => Q e a s
theorem hloop' (c : Cx) {n : Nat} {b : Code} {Q : HExit → Fr → HS → Prop} {a : Fr} {s : HS} {ι : Type} (J : ι → Prop) (F : ι → Fr) (S : ι → HS) (μ : ι → Nat) (i0 : ι) (hJ : J i0) (hF : (F i0).Sub a) (hS : Subp (S i0) s)
    (round : ∀ i, J i → hwp c n b (hround (fun a s => ∃ i', J i' ∧ μ i' < μ i ∧ (F i').Sub a ∧ Subp (S i') s) Q) (F i) (S i)) : SemWp c.P n (.loop b) Q a s :=
  hloop c J F S μ i0 hJ hF hS fun i hi => by
    have := round i hi
    have e : (hround (fun a s => ∃ i', J i' ∧ μ i' < μ i ∧ (F i').Sub a ∧ Subp (S i') s) Q) = (fun e a s => match e with | .normal => Fin (∃ i', J i' ∧ μ i' < μ i ∧ (F i').Sub a ∧ Subp (S i') s) | e => Q e a s) := by
      funext e a s
      cases e <;> rfl
    rwa [e] at this
theorem call_ret (c : Cx) {f : FuncId} {xs : List HV} {s1 s2 s : HS} {v : HV} {K E : HV → HS → Prop} (t : HS) (h : HCalls c.P f xs s1 fun e st => e = .ret v ∧ st = s2) (p : (t ++ s1).Perm s) (hk : forceL (s2 ++ t) (K v)) : CallWp c f xs s K E :=
  callWp c (HCalls.use (t := t) (R' := fun e st => e = .ret v ∧ st = s2 ++ t) h (List.perm_append_comm.trans p) fun e s3 ⟨h1, h2⟩ => ⟨h1, by rw [h2]⟩) (fun x s' ⟨h1, h2⟩ => by cases h1; rw [h2]; rw [forceL_eq] at hk; exact hk) (fun x s' ⟨h1, _⟩ => by cases h1)

/-- A nil slice as the beginning of a row of one's own. -/
theorem hnil_own (c : Cx) {n : Nat} {code : Code} {Q : HExit → Fr → HS → Prop} {a : Fr} {s : HS} (t sz : Nat) (ha : a.get t = some (.sure, .v (.slice none 0 0))) (h : ∀ r, r ∉ keys s → hwp c n code Q ((t, .sure, .list (.own r 0) sz []) :: a) ((r, .tok 0) :: s)) : SemWp c.P n code Q a s :=
  ⟨fun G w ra hs hf => by
    let G' : Ghost := { G with top := fun q => if q = G.lim then some ⟨0, 0, 0, 0⟩ else G.top q, lim := G.lim + 1 }
    have le : G.Le G' := ⟨fun _ _ _ e => e, fun _ _ e => e, fun q tp e => by
      have := hs.lt_top e
      simp only [G']
      rw [if_neg (by omega)]
      exact ⟨tp, e, Nat.le_refl _, fun _ => rfl⟩⟩
    have post : Post s G w ((G.lim, .tok 0) :: s) G' w := by
      refine ⟨⟨hs.kw, ?_, fun r x hx => ?_, fun r hr => ?_, fun b r e => ?_⟩, ⟨le, Nat.le_refl _, fun _ _ _ => ⟨rfl, rfl, fun _ => rfl⟩, fun r tp e _ => ?_, by simp [G'], rfl, rfl, rfl, fun r h0 _ h1 h2 h3 => ⟨h1, by simp only [G']; rw [if_neg (by omega)]; exact h2, h3⟩⟩, fun r hr => ?_⟩
      · simp only [keys, List.map_cons, List.nodup_cons]
        exact ⟨fun hm => by have := hs.lt_key hm; omega, hs.keys⟩
      · rcases List.mem_cons.1 hx with hx | hx
        · cases hx
          exact ⟨⟨0, 0, 0, 0⟩, by simp [G'], rfl, fun h => by simp at h⟩
        · exact (hs.holds r x hx).agree hs le (fun b _ => ⟨rfl, rfl, fun _ => rfl⟩) (fun q tp e => by
            have := hs.lt_top e
            simp only [G']
            rw [if_neg (by omega)]; exact e) (fun r h0 h1 h2 h3 => ⟨by simp only [G']; omega, h1, by simp only [G']; rw [if_neg (by omega)]; exact h2, h3⟩)
      · simp only [G'] at hr ⊢
        rw [if_neg (by omega)]
        exact hs.fresh r (by omega)
      · have := hs.role b r e
        simp only [G']; omega
      · have := hs.lt_top e
        simp only [G']
        rw [if_neg (by omega)]; exact e
      · simp only [keys, List.map_cons, List.mem_cons] at hr
        rcases hr with rfl | hr
        · exact .inr (Nat.le_refl _)
        · exact .inl hr
    obtain ⟨h1, h2⟩ := hf.slots t _ _ ha
    have hu := rel_v_eq h2
    have hw := hwp_sound c n code Q _ _ (h G.lim (fun hm => by have := hs.lt_key hm; omega))
    refine hw.lift hs post ⟨hf.size, hf.defers, fun t' g x e => ?_⟩
    simp only [Fr.get] at e
    split at e
    · rename_i ht
      have := Nat.eq_of_beq_eq_true ht
      subst this
      cases e
      refine ⟨h1, ?_⟩
      show rel G' _ _
      rw [hu]
      exact list_rel_nil ⟨⟨0, 0, 0, 0⟩, by simp [G'], Nat.le_refl _⟩
    · exact ⟨(hf.slots t' g x e).1, (hf.slots t' g x e).2.mono le⟩⟩

theorem wrap64 {x : Int} (h : -9223372036854775808 ≤ x ∧ x < 9223372036854775808) : IntKind.i64.wrap x = x := IntWalk.i64_in _ (by omega)

theorem Upd.id {cs : List HV} {off n : Nat} {ys : List HV} {K : List HV → Prop} (h : Upd cs off n ys K) : Upd cs off n ys K := h
theorem Upd.lit {cs : List HV} {off n : Nat} {ys : List HV} {K : List HV → Prop} (h : Nat.ble (off + n) cs.length = true) (k : forceL (cs.take off ++ ys ++ cs.drop (off + n)) K) : Upd cs off n ys K :=
  ⟨Nat.le_of_ble_eq_true h, by rw [forceL_eq] at k; exact k⟩
theorem Upd.set {cs : List HV} {off : Nat} {y : HV} {K : List HV → Prop} (h : off < cs.length) (k : K (cs.set off y)) : Upd cs off 1 [y] K :=
  ⟨h, by
    have e := List.set_eq_take_append_cons_drop (l := cs) (i := off) (a := y)
    rw [if_pos h] at e
    rw [List.append_assoc, List.singleton_append, ← e]; exact k⟩
theorem Grow2.id {A V : Prop} (h : Grow2 A V) : Grow2 A V := h
theorem Grow2.own {A V : Prop} (h : A) : Grow2 A V := ⟨.inl h⟩
theorem Grow2.arr {A : Prop} {c : Cx} {t e : TypeId} {z : HV} {F : TypeId → HV → Prop} (h1 : sliceElemT c t = some e) (h2 : hzero c e = some z) (h3 : kdOk z = true) (h : F e z) : Grow2 A (∃ e z, sliceElemT c t = some e ∧ hzero c e = some z ∧ kdOk z = true ∧ F e z) := ⟨.inr ⟨e, z, h1, h2, h3, h⟩⟩
theorem newCap {n : Nat} {F : Nat → Prop} (h : ∀ cap, n ≤ cap → F cap) : ∀ cap, n ≤ cap → F cap := h
end Go.Proofs.Hk

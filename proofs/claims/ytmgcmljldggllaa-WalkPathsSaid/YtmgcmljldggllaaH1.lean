import Derived.Calls
import Derived.Test.YtmgcmljldggllaaH0
set_option linter.unusedSimpArgs false
set_option linter.unusedVariables false
namespace Go.Proofs.Hk
open Go

inductive Res where
  | cells (cs : List HV) (t : TypeId)
  | map (es : List (Value × HV))
  | tok (n : Nat)
  | void

abbrev HS := List (Nat × Res)
def keys (s : HS) : List Nat := s.map (·.1)

def relMap (G : Ghost) : List (Value × HV) → List MapEntry → Prop
  | [], es => es = []
  | (k, x) :: l, es => ∃ e es', es = e :: es' ∧ e.key = k ∧ rel G x e.val ∧ relMap G l es'
theorem relMap.mono {G G' : Ghost} (hG : G.Le G') : ∀ (l : List (Value × HV)) (es : List MapEntry), relMap G l es → relMap G' l es
  | [], _, h => h
  | (_, x) :: l, _, ⟨e, es', h, hk, hx, hl⟩ => ⟨e, es', h, hk, hx.mono hG, relMap.mono hG l es' hl⟩

def holds (G : Ghost) (w : World) (r : Nat) : Res → Prop
  | .cells cs t => ∃ b vs, G.om r = some b ∧ G.role b = some r ∧ w.heap[b]? = some (.cells vs t (0, 0)) ∧ relCs G cs vs.toList ∧ ∀ o, G.K b o = none
  | .map es => ∃ b ents clock, G.om r = some b ∧ G.role b = some r ∧ w.heap[b]? = some (.map ents clock) ∧ relMap G es ents.toList
  | .tok n => ∃ tp, G.top r = some tp ∧ tp.n = n ∧ (tp.e < tp.ce → G.role tp.b = some r ∧ ∃ vs t, w.heap[tp.b]? = some (.cells vs t (0, 0)) ∧ tp.ce ≤ vs.size ∧ ∀ o, tp.e ≤ o → G.K tp.b o = none)
  | .void => r < G.lim ∧ G.om r = none ∧ G.top r = none ∧ ∀ b, G.role b ≠ some r

structure SRel (G : Ghost) (s : HS) (w : World) : Prop where
  kw : ∀ b o v, G.K b o = some v → w.cell? ⟨b, o, none⟩ = some v
  keys : (keys s).Nodup
  holds : ∀ r x, (r, x) ∈ s → holds G w r x
  fresh : ∀ r, G.lim ≤ r → G.om r = none ∧ G.top r = none
  role : ∀ b r, G.role b = some r → b < w.heap.size ∧ r < G.lim

structure Ext (s : HS) (G : Ghost) (w : World) (G' : Ghost) (w' : World) : Prop where
  le : G.Le G'
  size : w.heap.size ≤ w'.heap.size
  blocks : ∀ b, b < w.heap.size → (∀ r, G.role b = some r → r ∉ keys s) → w'.heap[b]? = w.heap[b]? ∧ G'.role b = G.role b ∧ ∀ o, G'.K b o = G.K b o
  tops : ∀ r tp, G.top r = some tp → r ∉ keys s → G'.top r = some tp
  lim : G.lim ≤ G'.lim
  os : w'.os = w.os
  tape : w'.tape = w.tape
  output : w'.output = w.output
  voids : ∀ r, r < G.lim → r ∉ keys s → G.om r = none → G.top r = none → (∀ b, G.role b ≠ some r) → G'.om r = none ∧ G'.top r = none ∧ ∀ b, G'.role b ≠ some r

/-- From one state to another. -/
structure Post (s : HS) (G : Ghost) (w : World) (s' : HS) (G' : Ghost) (w' : World) : Prop where
  srel : SRel G' s' w'
  ext : Ext s G w G' w'
  names : ∀ r, r ∈ keys s' → r ∈ keys s ∨ G.lim ≤ r

theorem Ext.refl (s : HS) (G : Ghost) (w : World) : Ext s G w G w := ⟨.refl G, Nat.le_refl _, fun _ _ _ => ⟨rfl, rfl, fun _ => rfl⟩, fun _ _ h _ => h, Nat.le_refl _, rfl, rfl, rfl, fun _ _ _ h1 h2 h3 => ⟨h1, h2, h3⟩⟩
theorem Post.refl {s : HS} {G : Ghost} {w : World} (h : SRel G s w) : Post s G w s G w := ⟨h, .refl s G w, fun _ h => .inl h⟩

theorem SRel.lt_top {G : Ghost} {s : HS} {w : World} (h : SRel G s w) {r : Nat} {t : Top} (e : G.top r = some t) : r < G.lim := by
  rcases Nat.lt_or_ge r G.lim with hl | hl
  · exact hl
  · rw [(h.fresh r hl).2] at e; cases e
theorem SRel.lt_om {G : Ghost} {s : HS} {w : World} (h : SRel G s w) {r b : Nat} (e : G.om r = some b) : r < G.lim := by
  rcases Nat.lt_or_ge r G.lim with hl | hl
  · exact hl
  · rw [(h.fresh r hl).1] at e; cases e
theorem SRel.lt_key {G : Ghost} {s : HS} {w : World} (h : SRel G s w) {r : Nat} (hr : r ∈ Hk.keys s) : r < G.lim := by
  obtain ⟨⟨r', x⟩, hx, rfl⟩ := List.mem_map.1 hr
  have := h.holds r' x hx
  cases x with
  | cells cs t => obtain ⟨b, vs, e, _⟩ := this; exact h.lt_om e
  | map es => obtain ⟨b, _, _, e, _⟩ := this; exact h.lt_om e
  | tok n => obtain ⟨tp, e, _⟩ := this; exact h.lt_top e
  | void => exact this.1

theorem Ext.trans {s s1 : HS} {G G1 G2 : Ghost} {w w1 w2 : World} (hs : SRel G s w) (h : Ext s G w G1 w1) (hn : ∀ r, r ∈ keys s1 → r ∈ keys s ∨ G.lim ≤ r) (k : Ext s1 G1 w1 G2 w2) : Ext s G w G2 w2 where
  le := h.le.trans k.le
  size := Nat.le_trans h.size k.size
  blocks := fun b hb hr => by
    obtain ⟨h1, h2, h3⟩ := h.blocks b hb hr
    obtain ⟨k1, k2, k3⟩ := k.blocks b (Nat.lt_of_lt_of_le hb h.size) (fun r e hk => by
      rw [h2] at e
      rcases hn r hk with hk | hk
      · exact hr r e hk
      · exact absurd (hs.role b r e).2 (by omega))
    exact ⟨k1.trans h1, k2.trans h2, fun o => (k3 o).trans (h3 o)⟩
  tops := fun r tp e hr => k.tops r tp (h.tops r tp e hr) (fun hk => by
    rcases hn r hk with hk | hk
    · exact hr hk
    · exact absurd (hs.lt_top e) (by omega))
  lim := Nat.le_trans h.lim k.lim
  os := k.os.trans h.os
  tape := k.tape.trans h.tape
  output := k.output.trans h.output
  voids := fun r hr hk h1 h2 h3 => by
    obtain ⟨a1, a2, a3⟩ := h.voids r hr hk h1 h2 h3
    exact k.voids r (Nat.lt_of_lt_of_le hr h.lim) (fun hk' => (hn r hk').elim hk (fun x => absurd hr (by omega))) a1 a2 a3
theorem Post.trans {s s1 s2 : HS} {G G1 G2 : Ghost} {w w1 w2 : World} (hs : SRel G s w) (h : Post s G w s1 G1 w1) (k : Post s1 G1 w1 s2 G2 w2) : Post s G w s2 G2 w2 where
  srel := k.srel
  ext := h.ext.trans hs h.names k.ext
  names := fun r hr => by
    rcases k.names r hr with hk | hk
    · exact h.names r hk
    · exact .inr (Nat.le_trans h.ext.lim hk)

theorem SRel.perm {G : Ghost} {s s' : HS} {w : World} (h : SRel G s w) (p : s'.Sublist s) : SRel G s' w :=
  ⟨h.kw, h.keys.sublist (p.map _), fun r x hx => h.holds r x (p.subset hx), h.fresh, h.role⟩
theorem SRel.sub {G : Ghost} {s s' : HS} {w : World} (h : SRel G s w) (hk : (Hk.keys s').Nodup) (p : ∀ x, x ∈ s' → x ∈ s) : SRel G s' w :=
  ⟨h.kw, hk, fun r x hx => h.holds r x (p _ hx), h.fresh, h.role⟩

theorem holds.kept {s : HS} {G G' : Ghost} {w w' : World} (h : SRel G s w) (hx : Ext s G w G' w') {r : Nat} {x : Res} (hr : r ∉ keys s) (k : holds G w r x) : holds G' w' r x := by
  cases x with
  | cells cs t =>
    obtain ⟨b, vs, e, ro, hb, hc, hK⟩ := k
    obtain ⟨h1, h2, h3⟩ := hx.blocks b (h.role b r ro).1 (fun r' e' => by rw [ro] at e'; cases e'; exact hr)
    exact ⟨b, vs, hx.le.om r b e, h2.trans ro, h1.trans hb, relCs.mono hx.le _ _ hc, fun o => (h3 o).trans (hK o)⟩
  | map es =>
    obtain ⟨b, ents, cl, e, ro, hb, hc⟩ := k
    obtain ⟨h1, h2, h3⟩ := hx.blocks b (h.role b r ro).1 (fun r' e' => by rw [ro] at e'; cases e'; exact hr)
    exact ⟨b, ents, cl, hx.le.om r b e, h2.trans ro, h1.trans hb, relMap.mono hx.le _ _ hc⟩
  | tok n =>
    obtain ⟨tp, e, hn, hq⟩ := k
    refine ⟨tp, hx.tops r tp e hr, hn, fun hlt => ?_⟩
    obtain ⟨ro, vs, t, hb, hce, hK⟩ := hq hlt
    obtain ⟨h1, h2, h3⟩ := hx.blocks tp.b (h.role _ r ro).1 (fun r' e' => by rw [ro] at e'; cases e'; exact hr)
    exact ⟨h2.trans ro, vs, t, h1.trans hb, hce, fun o ho => (h3 o).trans (hK o ho)⟩
  | void =>
    obtain ⟨h0, h1, h2, h3⟩ := k
    obtain ⟨a, b, c⟩ := hx.voids r h0 hr h1 h2 h3
    exact ⟨Nat.lt_of_lt_of_le h0 hx.lim, a, b, c⟩

theorem keys_append (s t : HS) : keys (s ++ t) = keys s ++ keys t := by simp [keys]

/-- What is not handed on stays as it is. -/
theorem Post.frame {s t s' : HS} {G G' : Ghost} {w w' : World} (h : SRel G (s ++ t) w) (k : Post s G w s' G' w') : Post (s ++ t) G w (s' ++ t) G' w' := by
  have hs : SRel G s w := h.perm (List.sublist_append_left s t)
  have hnd := h.keys
  rw [keys_append, List.nodup_append] at hnd
  obtain ⟨hnd1, hnd2, hnd3⟩ := hnd
  refine ⟨⟨k.srel.kw, ?_, fun r x hx => ?_, k.srel.fresh, k.srel.role⟩, ?_, fun r hr => ?_⟩
  · rw [keys_append, List.nodup_append]
    refine ⟨k.srel.keys, hnd2, fun a ha b hb e => ?_⟩
    subst e
    rcases k.names a ha with hk | hk
    · exact hnd3 a hk a hb rfl
    · have := h.lt_key (r := a) (by rw [keys_append]; exact List.mem_append_right _ hb)
      omega
  · rcases List.mem_append.1 hx with hx | hx
    · exact k.srel.holds r x hx
    · have hr : r ∉ keys s := fun hr => hnd3 r hr r (List.mem_map.2 ⟨_, hx, rfl⟩) rfl
      exact (h.holds r x (List.mem_append_right _ hx)).kept hs k.ext hr
  · exact ⟨k.ext.le, k.ext.size, fun b hb hr => k.ext.blocks b hb (fun r e hk => hr r e (by rw [keys_append]; exact List.mem_append_left _ hk)), fun r tp e hr => k.ext.tops r tp e (fun hk => hr (by rw [keys_append]; exact List.mem_append_left _ hk)), k.ext.lim, k.ext.os, k.ext.tape, k.ext.output, fun r hl hk => k.ext.voids r hl (fun h' => hk (by rw [keys_append]; exact List.mem_append_left _ h'))⟩
  · rw [keys_append, List.mem_append] at hr ⊢
    rcases hr with hr | hr
    · exact (k.names r hr).imp .inl id
    · exact .inl (.inr hr)

theorem holds.congr {G : Ghost} {w w' : World} (h : w'.heap = w.heap) {r : Nat} {x : Res} (k : holds G w r x) : holds G w' r x := by
  cases x <;> simpa only [Hk.holds, h] using k
/-- A draw. -/
theorem Post.drawn {s : HS} {G : Ghost} {w w' : World} (h : SRel G s w) (hh : w'.heap = w.heap) (ho : w'.os = w.os) (ht : w'.tape = w.tape) (hp : w'.output = w.output) : Post s G w s G w' :=
  ⟨⟨fun b o v e => by have := h.kw b o v e; simpa only [World.cell?, hh] using this, h.keys, fun r x hx => (h.holds r x hx).congr hh, h.fresh, fun b r e => by rw [hh]; exact h.role b r e⟩,
   ⟨.refl G, by rw [hh]; exact Nat.le_refl _, fun b _ _ => ⟨by rw [hh], rfl, fun _ => rfl⟩, fun _ _ e _ => e, Nat.le_refl _, ho, ht, hp, fun _ _ _ h1 h2 h3 => ⟨h1, h2, h3⟩⟩, fun _ h => .inl h⟩

/-! Calls. -/
inductive HEnd where
  | ret (x : HV)
  | pan (x : HV)
def endRel (G : Ghost) : HEnd → Ending → Prop
  | .ret x, .returned u => rel G x u
  | .pan x, .panicked ch => ∃ u, ch = [{ v := u, recovered := false }] ∧ rel G x u
  | _, _ => False

structure HCalls (P : Program) (f : FuncId) (args : List HV) (s : HS) (R : HEnd → HS → Prop) : Prop where
  out : ∀ G w vs, SRel G s w → relVs G args vs.toList → Calls P f vs w fun e w' => ∃ he s' G', R he s' ∧ endRel G' he e ∧ Post s G w s' G' w'

theorem HCalls.mono {P : Program} {f : FuncId} {args : List HV} {s : HS} {R R' : HEnd → HS → Prop} (h : HCalls P f args s R) (hr : ∀ e s', R e s' → R' e s') : HCalls P f args s R' :=
  ⟨fun G w vs hs ha => (h.out G w vs hs ha).mono fun _ _ ⟨he, s', G', hR, k⟩ => ⟨he, s', G', hr _ _ hR, k⟩⟩

theorem Post.sub {s s1 s' : HS} {G G' : Ghost} {w w' : World} (k : Post s G w s1 G' w') (hk : (keys s').Nodup) (p : ∀ x, x ∈ s' → x ∈ s1) : Post s G w s' G' w' :=
  ⟨k.srel.sub hk p, k.ext, fun r hr => by
    obtain ⟨y, hy, rfl⟩ := List.mem_map.1 hr
    exact k.names _ (List.mem_map.2 ⟨y, p y hy, rfl⟩)⟩

theorem Post.permL {s s0 s' : HS} {G G' : Ghost} {w w' : World} (p : s.Perm s0) (k : Post s G w s' G' w') : Post s0 G w s' G' w' := by
  have hm : ∀ r, r ∈ keys s ↔ r ∈ keys s0 := fun r => (p.map _).mem_iff
  exact ⟨k.srel, ⟨k.ext.le, k.ext.size, fun b hb hr => k.ext.blocks b hb (fun r e h => hr r e ((hm r).1 h)), fun r tp e hr => k.ext.tops r tp e (fun h => hr ((hm r).1 h)), k.ext.lim, k.ext.os, k.ext.tape, k.ext.output, fun r hl hk => k.ext.voids r hl (fun h' => hk ((hm r).1 h'))⟩, fun r hr => (k.names r hr).imp (hm r).1 id⟩

/-- The frame rule. -/
theorem HCalls.frame {P : Program} {f : FuncId} {args : List HV} {s : HS} {R : HEnd → HS → Prop} (h : HCalls P f args s R) (t : HS) : HCalls P f args (s ++ t) (fun e s' => ∃ s1, s' = s1 ++ t ∧ R e s1) :=
  ⟨fun G w vs hs ha => (h.out G w vs (hs.perm (List.sublist_append_left s t)) ha).mono fun _ _ ⟨he, s', G', hR, k, kp⟩ => ⟨he, s' ++ t, G', ⟨s', rfl, hR⟩, k, kp.frame hs⟩⟩
theorem SRel.permd {G : Ghost} {s s' : HS} {w : World} (h : SRel G s w) (p : s.Perm s') : SRel G s' w :=
  h.sub (((p.map _).nodup_iff).1 h.keys) fun _ hx => p.mem_iff.2 hx
theorem HCalls.perm {P : Program} {f : FuncId} {args : List HV} {s s0 : HS} {R : HEnd → HS → Prop} (p : s.Perm s0) (h : HCalls P f args s R) : HCalls P f args s0 R :=
  ⟨fun G w vs hs ha => (h.out G w vs (hs.permd p.symm) ha).mono fun _ _ ⟨he, s', G', hR, k, kp⟩ => ⟨he, s', G', hR, k, kp.permL p⟩⟩
/-- At the call: part of the state is handed on. -/
theorem HCalls.use {P : Program} {f : FuncId} {args : List HV} {s t s0 : HS} {R : HEnd → HS → Prop} {R' : HEnd → HS → Prop} (h : HCalls P f args s R) (p : (s ++ t).Perm s0) (hr : ∀ e s1, R e s1 → R' e (s1 ++ t)) : HCalls P f args s0 R' :=
  ((h.frame t).perm p).mono fun e _ ⟨s1, e1, hR⟩ => e1 ▸ hr e s1 hR

end Go.Proofs.Hk

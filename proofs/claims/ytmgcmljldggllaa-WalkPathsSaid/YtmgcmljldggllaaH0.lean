import Derived.Calls
set_option linter.unusedSimpArgs false
set_option linter.unusedVariables false
namespace Go.Proofs.Hk
open Go

/-- Who may append to a slice: nobody; whoever (its capacity is its length); the owner of token i, the slice beginning at the token's place st. -/
inductive Tok where
  | no
  | full
  | own (i st : Nat)

/-- Values by content: slices as lists. -/
inductive HV where
  | v (x : Value)
  | agg (l : List HV)
  | tup (l : List HV)
  | list (t : Tok) (sz : Nat) (l : List HV)
  | ptr (r off : Nat)
  | cptr (x : HV)
  | fn (f : Fn) (first caps : List HV)
  | map (r : Nat)
  | arr (r off len cap sz : Nat)
  | iface (t : TypeId) (x : HV)

instance : Inhabited HV := ⟨.v (.bool false)⟩

structure Top where
  n : Nat
  b : Nat
  e : Nat
  ce : Nat

/-- What is known of memory: cells that never change any more; the blocks of names; the ends of rows that grow; whose a block is. -/
structure Ghost where
  K : Nat → Nat → Option Value
  om : Nat → Option Nat
  top : Nat → Option Top
  role : Nat → Option Nat
  lim : Nat

structure Ghost.Le (G G' : Ghost) : Prop where
  K : ∀ b o v, G.K b o = some v → G'.K b o = some v
  om : ∀ r b, G.om r = some b → G'.om r = some b
  top : ∀ r t, G.top r = some t → ∃ t', G'.top r = some t' ∧ t.n ≤ t'.n ∧ (t'.n = t.n → t' = t)

theorem Ghost.Le.refl (G : Ghost) : G.Le G := ⟨fun _ _ _ h => h, fun _ _ h => h, fun _ t h => ⟨t, h, Nat.le_refl _, fun _ => rfl⟩⟩
theorem Ghost.Le.trans {G G1 G2 : Ghost} (h : G.Le G1) (k : G1.Le G2) : G.Le G2 :=
  ⟨fun b o v e => k.K b o v (h.K b o v e), fun r b e => k.om r b (h.om r b e), fun r t e => by
    obtain ⟨t1, e1, n1, q1⟩ := h.top r t e
    obtain ⟨t2, e2, n2, q2⟩ := k.top r t1 e1
    exact ⟨t2, e2, Nat.le_trans n1 n2, fun q => by
      have h1 : t1.n = t.n := by omega
      have h2 : t2 = t1 := q2 (by omega)
      rw [h2, q1 h1]⟩⟩

def tokRel (G : Ghost) (t : Tok) (sz n b o c : Nat) : Prop :=
  match t with
  | .no => True
  | .full => c = n
  | .own i st => ∃ tp, G.top i = some tp ∧ st + n ≤ tp.n ∧ (st + n = tp.n → (tp.b = b ∧ tp.e = o + n * sz ∧ tp.ce = o + c * sz) ∨ (tp.e = tp.ce ∧ c = n))
def tokNil (G : Ghost) (t : Tok) : Prop :=
  match t with
  | .own i st => ∃ tp, G.top i = some tp ∧ st ≤ tp.n
  | _ => True

inductive Kd3 where
  | one
  | agg
  | tup
def HV.kd : HV → Kd3
  | .agg _ => .agg
  | .tup _ => .tup
  | _ => .one
def vkd : Value → Kd3
  | .agg _ => .agg
  | .tuple _ => .tup
  | _ => .one

mutual
/-- The cells of a value. -/
def relC (G : Ghost) : HV → List Value → Prop
  | .v x, cs => cs = [x] ∧ vkd x = .one
  | .agg l, cs => relCs G l cs
  | .tup l, cs => ∃ us : Array Value, cs = [.tuple us] ∧ relVs G l us.toList
  | .list t sz l, cs => (l = [] ∧ cs = [.slice none 0 0] ∧ tokNil G t) ∨
      (∃ b o c, cs = [.slice (some ⟨b, o, none⟩) l.length c] ∧ l.length ≤ c ∧ relAts G l (G.K b) o sz ∧ tokRel G t sz l.length b o c) ∨
      (l = [] ∧ (∀ i st, t ≠ .own i st) ∧ ∃ a, cs = [.slice (some a) 0 0])
  | .ptr r off, cs => ∃ b, G.om r = some b ∧ cs = [.pointer (some ⟨b, off, none⟩)]
  | .cptr x, cs => ∃ b o xs, cs = [.pointer (some ⟨b, o, none⟩)] ∧ x.kd ≠ .tup ∧ (∀ j, j < xs.length → G.K b (o + j) = xs[j]?) ∧ relC G x xs
  | .fn f fi ca, cs => ∃ a b : Array Value, cs = [.func f a b] ∧ relVs G fi a.toList ∧ relVs G ca b.toList
  | .map r, cs => ∃ b, G.om r = some b ∧ cs = [.map (some b)]
  | .arr r off len cap _, cs => ∃ b, G.om r = some b ∧ cs = [.slice (some ⟨b, off, none⟩) len cap]
  | .iface t x, cs => ∃ u, cs = [.iface t u] ∧ x.kd = vkd u ∧ relC G x u.cells.toList
/-- Leaves, a cell each. -/
def relCs (G : Ghost) : List HV → List Value → Prop
  | [], cs => cs = []
  | x :: xs, cs => ∃ u us, cs = u :: us ∧ (x.kd = .one ∧ relC G x [u]) ∧ relCs G xs us
/-- Values one by one. -/
def relVs (G : Ghost) : List HV → List Value → Prop
  | [], us => us = []
  | x :: xs, us => ∃ u us', us = u :: us' ∧ (x.kd = vkd u ∧ relC G x u.cells.toList) ∧ relVs G xs us'
/-- Elements of a row, each of so many cells. -/
def relAts (G : Ghost) : List HV → (Nat → Option Value) → Nat → Nat → Prop
  | [], _, _, _ => True
  | x :: xs, rd, o, sz => (∃ cs, cs.length = sz ∧ x.kd ≠ .tup ∧ (∀ j, j < sz → rd (o + j) = cs[j]?) ∧ relC G x cs) ∧ relAts G xs rd (o + sz) sz
end

def rel (G : Ghost) (x : HV) (u : Value) : Prop := x.kd = vkd u ∧ relC G x u.cells.toList

theorem relVs_cons (G : Ghost) (x : HV) (xs : List HV) (us : List Value) : relVs G (x :: xs) us = ∃ u us', us = u :: us' ∧ rel G x u ∧ relVs G xs us' := by
  simp only [relVs, rel]

theorem tokRel.mono {G G' : Ghost} (hG : G.Le G') {t : Tok} {sz n b o c : Nat} (h : tokRel G t sz n b o c) : tokRel G' t sz n b o c := by
  cases t with
  | no => trivial
  | full => exact h
  | own i st =>
    obtain ⟨tp, e, hle, hq⟩ := h
    obtain ⟨t', e', hn, hq'⟩ := hG.top i tp e
    refine ⟨t', e', by omega, fun q => ?_⟩
    have : t' = tp := hq' (by omega)
    subst this
    exact hq q
theorem tokNil.mono {G G' : Ghost} (hG : G.Le G') {t : Tok} (h : tokNil G t) : tokNil G' t := by
  cases t with
  | no => trivial
  | full => trivial
  | own i st =>
    obtain ⟨tp, e, hle⟩ := h
    obtain ⟨t', e', hn, _⟩ := hG.top i tp e
    exact ⟨t', e', by omega⟩

mutual
theorem relC.mono {G G' : Ghost} (hG : G.Le G') : ∀ (x : HV) (cs : List Value), relC G x cs → relC G' x cs
  | .v x, cs, h => by simpa only [relC] using h
  | .agg l, cs, h => by simp only [relC] at h ⊢; exact relCs.mono hG l cs h
  | .tup l, cs, h => by
    simp only [relC] at h ⊢
    obtain ⟨us, e, h⟩ := h
    exact ⟨us, e, relVs.mono hG l _ h⟩
  | .list t sz l, cs, h => by
    simp only [relC] at h ⊢
    rcases h with ⟨e, e', h⟩ | ⟨b, o, c, e, hc, h, ht⟩ | h
    · exact .inl ⟨e, e', h.mono hG⟩
    · exact .inr (.inl ⟨b, o, c, e, hc, relAts.mono hG l _ _ (hG.K b) _ _ h, ht.mono hG⟩)
    · exact .inr (.inr h)
  | .ptr r off, cs, h => by
    simp only [relC] at h ⊢
    obtain ⟨b, e, h⟩ := h
    exact ⟨b, hG.om r b e, h⟩
  | .cptr x, cs, h => by
    simp only [relC] at h ⊢
    obtain ⟨b, o, xs, e, hk, hx, h⟩ := h
    refine ⟨b, o, xs, e, hk, fun j hj => ?_, relC.mono hG x xs h⟩
    have := hx j hj
    rw [List.getElem?_eq_getElem hj] at this ⊢
    exact hG.K _ _ _ this
  | .fn f fi ca, cs, h => by
    simp only [relC] at h ⊢
    obtain ⟨a, b, e, h1, h2⟩ := h
    exact ⟨a, b, e, relVs.mono hG fi _ h1, relVs.mono hG ca _ h2⟩
  | .map r, cs, h => by
    simp only [relC] at h ⊢
    obtain ⟨b, e, h⟩ := h
    exact ⟨b, hG.om r b e, h⟩
  | .arr r off len cap sz, cs, h => by
    simp only [relC] at h ⊢
    obtain ⟨b, e, h⟩ := h
    exact ⟨b, hG.om r b e, h⟩
  | .iface t x, cs, h => by
    simp only [relC] at h ⊢
    obtain ⟨u, e, ha, h⟩ := h
    exact ⟨u, e, ha, relC.mono hG x _ h⟩
theorem relCs.mono {G G' : Ghost} (hG : G.Le G') : ∀ (l : List HV) (cs : List Value), relCs G l cs → relCs G' l cs
  | [], cs, h => by simpa only [relCs] using h
  | x :: xs, cs, h => by
    simp only [relCs] at h ⊢
    obtain ⟨u, us, e, ⟨h0, h1⟩, h2⟩ := h
    exact ⟨u, us, e, ⟨h0, relC.mono hG x _ h1⟩, relCs.mono hG xs _ h2⟩
theorem relVs.mono {G G' : Ghost} (hG : G.Le G') : ∀ (l : List HV) (us : List Value), relVs G l us → relVs G' l us
  | [], us, h => by simpa only [relVs] using h
  | x :: xs, us, h => by
    simp only [relVs] at h ⊢
    obtain ⟨u, us', e, ⟨h0, h1⟩, h2⟩ := h
    exact ⟨u, us', e, ⟨h0, relC.mono hG x _ h1⟩, relVs.mono hG xs _ h2⟩
theorem relAts.mono {G G' : Ghost} (hG : G.Le G') : ∀ (l : List HV) (rd rd' : Nat → Option Value) (_ : ∀ o v, rd o = some v → rd' o = some v) (o sz : Nat), relAts G l rd o sz → relAts G' l rd' o sz
  | [], _, _, _, _, _, _ => by simp only [relAts]
  | x :: xs, rd, rd', hr, o, sz, h => by
    simp only [relAts] at h ⊢
    obtain ⟨⟨cs, hs, hk, hx, h1⟩, h2⟩ := h
    refine ⟨⟨cs, hs, hk, fun j hj => ?_, relC.mono hG x _ h1⟩, relAts.mono hG xs rd rd' hr _ _ h2⟩
    have := hx j hj
    rw [List.getElem?_eq_getElem (by omega)] at this ⊢
    exact hr _ _ this
end
theorem rel.mono {G G' : Ghost} (hG : G.Le G') {x : HV} {u : Value} (h : rel G x u) : rel G' x u := ⟨h.1, relC.mono hG _ _ h.2⟩

end Go.Proofs.Hk

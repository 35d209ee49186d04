import Derived.Test.YtmgcmljldggllaaN17
import Derived.Test.YtmgcmljldggllaaH26
import Derived.Test.YtmgcmljldggllaaRows
import Derived.Test.YtmgcmljldggllaaN19
set_option linter.unusedSimpArgs false
set_option linter.unusedVariables false
namespace Go.Proofs.Ytmgcmljldggllaa
open Go Go.Proofs.Hk Go.RowKit Go.WideShapes Go.ChangeShapes
theorem Try.cells4 : Try.prog.cellsOf 4 = 1 := by kernel_rfl
theorem Try.cells3 : Try.prog.cellsOf 3 = 1 := by kernel_rfl
theorem Try.cells89 : Try.prog.cellsOf 89 = 1 := by kernel_rfl
theorem Try.cells38 : Try.prog.cellsOf 38 = 1 := by kernel_rfl
theorem Try.cells40 : Try.prog.cellsOf 40 = 2 := by kernel_rfl
theorem Try.cells37 : Try.prog.cellsOf 37 = 1 := by kernel_rfl
theorem Try.cells42 : Try.prog.cellsOf 42 = 4 := by kernel_rfl
theorem Try.cells43 : Try.prog.cellsOf 43 = 1 := by kernel_rfl
theorem Try.cells44 : Try.prog.cellsOf 44 = 1 := by kernel_rfl
theorem Try.cells46 : Try.prog.cellsOf 46 = 6 := by kernel_rfl
section
variable {H : Type} {enc : TypeId × Value → H} {w : World}
theorem len2 {α : Type} {l : List α} (h : l.length = 2) : ∃ a b, l = [a, b] := by
  match l, h with
  | [a, b], _ => exact ⟨a, b, rfl⟩
theorem len4 {α : Type} {l : List α} (h : l.length = 4) : ∃ a b c d, l = [a, b, c, d] := by
  match l, h with
  | [a, b, c, d], _ => exact ⟨a, b, c, d, rfl⟩
theorem len6 {α : Type} {l : List α} (h : l.length = 6) : ∃ a b c d e f, l = [a, b, c, d, e, f] := by
  match l, h with
  | [a, b, c, d, e, f], _ => exact ⟨a, b, c, d, e, f, rfl⟩
theorem maxLen_le : maxLen ≤ 9223372036854775807 := by decide
/-- A number of the program. -/
structure LenI (g : GI) : Prop where
  lim : Lim g.l
  len : g.l.length ≤ 9223372036854775807
theorem u32_wf {n : Int} (h : (Lit.int .u32 n).wf = true) : 0 ≤ n ∧ n < 4294967296 := by
  have h1 : IntKind.u32.min ≤ n ∧ n ≤ IntKind.u32.max := by simpa [Lit.wf] using h
  have e1 : IntKind.u32.min = 0 := by decide +kernel
  have e2 : IntKind.u32.max = 4294967295 := by decide +kernel
  omega
theorem opInt : Opens enc Try.prog w 40 GI encI LenI := by
  refine ⟨fun _ => by simp [HV.kd, encI, encP], fun fuel cs d h => ?_⟩
  obtain ⟨hl, ⟨f0, y0, h0⟩, ⟨f1, y1, h1⟩, _⟩ := struct_of Try.underlying40 h
  rw [Try.cells40] at hl
  obtain ⟨c0, c1, rfl⟩ := len2 hl
  simp only [Try.cells4, Try.cells38] at h0 h1
  obtain ⟨n, _, r0⟩ := (opens_bool Try.underlying4).2 _ _ _ h0
  obtain ⟨l, ⟨q1, q2⟩, r1⟩ := (opens_slice Try.underlying38 Try.cells89 (by decide) (opens_int Try.underlying89)).2 _ _ _ h1
  have hu : ∀ x ∈ l, 0 ≤ x ∧ x < 4294967296 := fun x hx => u32_wf (q1 x hx)
  have e : (l.map Int.toNat).map u32 = l.map fun n => HV.v (.int .u32 n) := by
    rw [List.map_map]
    refine List.map_congr_left fun x hx => ?_
    have := (hu x hx).1
    simp only [Function.comp, u32]
    rw [Int.toNat_of_nonneg this]
  refine ⟨⟨n, l.map Int.toNat⟩, ⟨?_, by rw [List.length_map]; exact Nat.le_trans q2 maxLen_le⟩, ?_⟩
  · intro x hx
    obtain ⟨y, hy, rfl⟩ := List.mem_map.1 hx
    have := hu y hy
    show y.toNat < B
    simp only [B]
    omega
  · simp only [encI, encP, LL, relC, relCs, e]
    exact ⟨c0, [c1], rfl, ⟨rfl, by simpa [bb, relC] using r0⟩, c1, [], rfl, ⟨rfl, by simpa [relC] using r1⟩, rfl⟩
theorem opInts : Opens enc Try.prog w 37 (List GI) LIs (fun l => (∀ g ∈ l, LenI g) ∧ l.length ≤ maxLen) := opens_slice Try.underlying37 Try.cells40 (by decide) opInt
structure LenAf (a : GA) : Prop where
  x : ∀ g ∈ a.x, LenI g
  w : ∀ g ∈ a.w, LenI g
  k : LenI a.k
  lx : a.x.length ≤ maxLen
  lw : a.w.length ≤ maxLen
theorem opAff : Opens enc Try.prog w 42 GA encA LenAf := by
  refine ⟨fun _ => by simp [HV.kd, encA, encA'], fun fuel cs d h => ?_⟩
  obtain ⟨hl, ⟨f0, y0, h0⟩, ⟨f1, y1, h1⟩, ⟨f2, y2, h2⟩, _⟩ := struct_of Try.underlying42 h
  rw [Try.cells42] at hl
  obtain ⟨c0, c1, c2, c3, rfl⟩ := len4 hl
  simp only [Try.cells37, Try.cells40] at h0 h1 h2
  obtain ⟨x, q0, r0⟩ := opInts.2 _ _ _ h0
  obtain ⟨w, q1, r1⟩ := opInts.2 _ _ _ h1
  obtain ⟨k, q2, r2⟩ := opInt.2 _ _ _ h2
  refine ⟨⟨x, w, k⟩, ⟨q0.1, q1.1, q2, q0.2, q1.2⟩, ?_⟩
  simp only [encI, encP, relC] at r2
  simp only [encA, encA', relC, relCs]
  exact ⟨c0, _, rfl, ⟨rfl, by simpa using r0⟩, c1, _, rfl, ⟨rfl, by simpa using r1⟩, by simpa [relCs] using r2⟩
theorem opAffs : Opens enc Try.prog w 43 (List GA) LAs (fun l => (∀ g ∈ l, LenAf g) ∧ l.length ≤ maxLen) := opens_slice Try.underlying43 Try.cells42 (by decide) opAff
theorem opBools : Opens enc Try.prog w 44 (List Bool) LBs (fun l => l.length ≤ maxLen) :=
  ⟨fun _ => by simp [HV.kd, LBs], fun f cs d h => by
    obtain ⟨l, q, r⟩ := (opens_slice Try.underlying44 Try.cells4 (by decide) (opens_bool Try.underlying4)).2 f cs d h
    exact ⟨l, q.2, r⟩⟩
structure LenEd (e : GE) : Prop where
  g : ∀ a ∈ e.g, LenAf a
  s : ∀ a ∈ e.s, LenAf a
  lg : e.g.length ≤ maxLen
  ls : e.s.length ≤ maxLen
  lp : e.p.length ≤ maxLen
  fr : (Lit.int .i64 e.fr).wf = true
  to : (Lit.int .i64 e.to).wf = true
  m : (Lit.int .i64 e.m).wf = true
theorem opEdge : Opens enc Try.prog w 46 GE encE LenEd := by
  refine ⟨fun _ => by simp [HV.kd, encE, encE'], fun fuel cs d h => ?_⟩
  obtain ⟨hl, ⟨f0, y0, h0⟩, ⟨f1, y1, h1⟩, ⟨f2, y2, h2⟩, ⟨f3, y3, h3⟩, ⟨f4, y4, h4⟩, ⟨f5, y5, h5⟩, _⟩ := struct_of Try.underlying46 h
  rw [Try.cells46] at hl
  obtain ⟨c0, c1, c2, c3, c4, c5, rfl⟩ := len6 hl
  simp only [Try.cells3, Try.cells43, Try.cells44] at h0 h1 h2 h3 h4 h5
  obtain ⟨fr, q0, r0⟩ := (opens_int Try.underlying3).2 _ _ _ h0
  obtain ⟨to, q1, r1⟩ := (opens_int Try.underlying3).2 _ _ _ h1
  obtain ⟨m, q2, r2⟩ := (opens_int Try.underlying3).2 _ _ _ h2
  obtain ⟨g, q3, r3⟩ := opAffs.2 _ _ _ h3
  obtain ⟨s, q4, r4⟩ := opAffs.2 _ _ _ h4
  obtain ⟨p, q5, r5⟩ := opBools.2 _ _ _ h5
  refine ⟨⟨fr, to, m, g, s, p⟩, ⟨q3.1, q4.1, q3.2, q4.2, q5, q0, q1, q2⟩, ?_⟩
  simp only [encE, encE', relC, relCs]
  exact ⟨c0, _, rfl, ⟨rfl, r0⟩, c1, _, rfl, ⟨rfl, r1⟩, c2, _, rfl, ⟨rfl, r2⟩, c3, _, rfl, ⟨rfl, r3⟩, c4, _, rfl, ⟨rfl, r4⟩, c5, _, rfl, ⟨rfl, r5⟩, rfl⟩
end
end Go.Proofs.Ytmgcmljldggllaa

set_option linter.unusedSimpArgs false
set_option linter.unusedVariables false
namespace Go.Proofs.Ytmgcmljldggllaa
open Go Go.Proofs.Hk Go.RowKit Go.WideShapes Go.ChangeShapes
theorem limA {a : GA} (h : LenAf a) : LimA a := ⟨fun g hg => (h.x g hg).lim, fun g hg => (h.w g hg).lim, h.k.lim⟩
theorem lenA {a : GA} (h : LenAf a) : LenA a := ⟨Nat.le_trans h.lx maxLen_le, Nat.le_trans h.lw maxLen_le⟩
theorem lenE {e : GE} (h : LenEd e) : LenE e := ⟨fun a ha => lenA (h.g a ha), fun a ha => lenA (h.s a ha), Nat.le_trans h.lg maxLen_le, Nat.le_trans h.ls maxLen_le⟩
theorem WalkGoes_args (a : GA) (ha : LenAf a) (e : GE) (he : LenEd e) (x : List GI) (hx : (∀ g ∈ x, LenI g) ∧ x.length ≤ maxLen) (w : List GI) (hw : (∀ g ∈ w, LenI g) ∧ w.length ≤ maxLen) : Pur cx 7 [encA a, encE e, LIs x, LIs w] (bb true) :=
  WalkGoes_spec a e x w (limA ha) (fun b hb => limA (he.g b hb)) (fun b hb => limA (he.s b hb)) (fun g hg => (hx.1 g hg).lim) (fun g hg => (hw.1 g hg).lim) (lenA ha) (lenE he) (Nat.le_trans hx.2 maxLen_le) (Nat.le_trans hw.2 maxLen_le)
end Go.Proofs.Ytmgcmljldggllaa

import Derived.Test.YtmgcmljldggllaaN17
import Derived.Test.YtmgcmljldggllaaH26
import Derived.Test.YtmgcmljldggllaaRows
import Derived.Test.YtmgcmljldggllaaN31
set_option linter.unusedSimpArgs false
set_option linter.unusedVariables false
namespace Go.Proofs.Ytmgcmljldggllaa
open Go Go.Proofs.Hk Go.RowKit Go.WideShapes Go.ChangeShapes
theorem Try.cells4 : Try.prog.cellsOf 4 = 1 := by kernel_rfl
theorem Try.cells3 : Try.prog.cellsOf 3 = 1 := by kernel_rfl
theorem Try.cells89 : Try.prog.cellsOf 89 = 1 := by kernel_rfl
theorem Try.cells38 : Try.prog.cellsOf 38 = 1 := by kernel_rfl
theorem Try.cells40 : Try.prog.cellsOf 40 = 2 := by kernel_rfl
theorem Try.cells37 : Try.prog.cellsOf 37 = 1 := by kernel_rfl
theorem Try.cells42 : Try.prog.cellsOf 42 = 4 := by kernel_rfl
theorem Try.cells43 : Try.prog.cellsOf 43 = 1 := by kernel_rfl
theorem Try.cells44 : Try.prog.cellsOf 44 = 1 := by kernel_rfl
theorem Try.cells46 : Try.prog.cellsOf 46 = 6 := by kernel_rfl
section
variable {H : Type} {enc : TypeId × Value → H} {w : World}
theorem len2 {α : Type} {l : List α} (h : l.length = 2) : ∃ a b, l = [a, b] := by
  match l, h with
  | [a, b], _ => exact ⟨a, b, rfl⟩
theorem len4 {α : Type} {l : List α} (h : l.length = 4) : ∃ a b c d, l = [a, b, c, d] := by
  match l, h with
  | [a, b, c, d], _ => exact ⟨a, b, c, d, rfl⟩
theorem len6 {α : Type} {l : List α} (h : l.length = 6) : ∃ a b c d e f, l = [a, b, c, d, e, f] := by
  match l, h with
  | [a, b, c, d, e, f], _ => exact ⟨a, b, c, d, e, f, rfl⟩
theorem maxLen_le : maxLen ≤ 9223372036854775807 := by decide
/-- A number of the program. -/
structure LenI (g : GI) : Prop where
  lim : Lim g.l
  len : g.l.length ≤ 9223372036854775807
theorem u32_wf {n : Int} (h : (Lit.int .u32 n).wf = true) : 0 ≤ n ∧ n < 4294967296 := by
  have h1 : IntKind.u32.min ≤ n ∧ n ≤ IntKind.u32.max := by simpa [Lit.wf] using h
  have e1 : IntKind.u32.min = 0 := by decide +kernel
  have e2 : IntKind.u32.max = 4294967295 := by decide +kernel
  omega
theorem opInt : Opens enc Try.prog w 40 GI encI LenI := by
  refine ⟨fun _ => by simp [HV.kd, encI, encP], fun fuel cs d h => ?_⟩
  obtain ⟨hl, ⟨f0, y0, h0⟩, ⟨f1, y1, h1⟩, _⟩ := struct_of Try.underlying40 h
  rw [Try.cells40] at hl
  obtain ⟨c0, c1, rfl⟩ := len2 hl
  simp only [Try.cells4, Try.cells38] at h0 h1
  obtain ⟨n, _, r0⟩ := (opens_bool Try.underlying4).2 _ _ _ h0
  obtain ⟨l, ⟨q1, q2⟩, r1⟩ := (opens_slice Try.underlying38 Try.cells89 (by decide) (opens_int Try.underlying89)).2 _ _ _ h1
  have hu : ∀ x ∈ l, 0 ≤ x ∧ x < 4294967296 := fun x hx => u32_wf (q1 x hx)
  have e : (l.map Int.toNat).map u32 = l.map fun n => HV.v (.int .u32 n) := by
    rw [List.map_map]
    refine List.map_congr_left fun x hx => ?_
    have := (hu x hx).1
    simp only [Function.comp, u32]
    rw [Int.toNat_of_nonneg this]
  refine ⟨⟨n, l.map Int.toNat⟩, ⟨?_, by rw [List.length_map]; exact Nat.le_trans q2 maxLen_le⟩, ?_⟩
  · intro x hx
    obtain ⟨y, hy, rfl⟩ := List.mem_map.1 hx
    have := hu y hy
    show y.toNat < B
    simp only [B]
    omega
  · simp only [encI, encP, LL, relC, relCs, e]
    exact ⟨c0, [c1], rfl, ⟨rfl, by simpa [bb, relC] using r0⟩, c1, [], rfl, ⟨rfl, by simpa [relC] using r1⟩, rfl⟩
theorem opInts : Opens enc Try.prog w 37 (List GI) LIs (fun l => (∀ g ∈ l, LenI g) ∧ l.length ≤ maxLen) := opens_slice Try.underlying37 Try.cells40 (by decide) opInt
structure LenAf (a : GA) : Prop where
  x : ∀ g ∈ a.x, LenI g
  w : ∀ g ∈ a.w, LenI g
  k : LenI a.k
  lx : a.x.length ≤ maxLen
  lw : a.w.length ≤ maxLen
theorem opAff : Opens enc Try.prog w 42 GA encA LenAf := by
  refine ⟨fun _ => by simp [HV.kd, encA, encA'], fun fuel cs d h => ?_⟩
  obtain ⟨hl, ⟨f0, y0, h0⟩, ⟨f1, y1, h1⟩, ⟨f2, y2, h2⟩, _⟩ := struct_of Try.underlying42 h
  rw [Try.cells42] at hl
  obtain ⟨c0, c1, c2, c3, rfl⟩ := len4 hl
  simp only [Try.cells37, Try.cells40] at h0 h1 h2
  obtain ⟨x, q0, r0⟩ := opInts.2 _ _ _ h0
  obtain ⟨w, q1, r1⟩ := opInts.2 _ _ _ h1
  obtain ⟨k, q2, r2⟩ := opInt.2 _ _ _ h2
  refine ⟨⟨x, w, k⟩, ⟨q0.1, q1.1, q2, q0.2, q1.2⟩, ?_⟩
  simp only [encI, encP, relC] at r2
  simp only [encA, encA', relC, relCs]
  exact ⟨c0, _, rfl, ⟨rfl, by simpa using r0⟩, c1, _, rfl, ⟨rfl, by simpa using r1⟩, by simpa [relCs] using r2⟩
theorem opAffs : Opens enc Try.prog w 43 (List GA) LAs (fun l => (∀ g ∈ l, LenAf g) ∧ l.length ≤ maxLen) := opens_slice Try.underlying43 Try.cells42 (by decide) opAff
theorem opBools : Opens enc Try.prog w 44 (List Bool) LBs (fun l => l.length ≤ maxLen) :=
  ⟨fun _ => by simp [HV.kd, LBs], fun f cs d h => by
    obtain ⟨l, q, r⟩ := (opens_slice Try.underlying44 Try.cells4 (by decide) (opens_bool Try.underlying4)).2 f cs d h
    exact ⟨l, q.2, r⟩⟩
structure LenEd (e : GE) : Prop where
  g : ∀ a ∈ e.g, LenAf a
  s : ∀ a ∈ e.s, LenAf a
  lg : e.g.length ≤ maxLen
  ls : e.s.length ≤ maxLen
  lp : e.p.length ≤ maxLen
  fr : (Lit.int .i64 e.fr).wf = true
  to : (Lit.int .i64 e.to).wf = true
  m : (Lit.int .i64 e.m).wf = true
theorem opEdge : Opens enc Try.prog w 46 GE encE LenEd := by
  refine ⟨fun _ => by simp [HV.kd, encE, encE'], fun fuel cs d h => ?_⟩
  obtain ⟨hl, ⟨f0, y0, h0⟩, ⟨f1, y1, h1⟩, ⟨f2, y2, h2⟩, ⟨f3, y3, h3⟩, ⟨f4, y4, h4⟩, ⟨f5, y5, h5⟩, _⟩ := struct_of Try.underlying46 h
  rw [Try.cells46] at hl
  obtain ⟨c0, c1, c2, c3, c4, c5, rfl⟩ := len6 hl
  simp only [Try.cells3, Try.cells43, Try.cells44] at h0 h1 h2 h3 h4 h5
  obtain ⟨fr, q0, r0⟩ := (opens_int Try.underlying3).2 _ _ _ h0
  obtain ⟨to, q1, r1⟩ := (opens_int Try.underlying3).2 _ _ _ h1
  obtain ⟨m, q2, r2⟩ := (opens_int Try.underlying3).2 _ _ _ h2
  obtain ⟨g, q3, r3⟩ := opAffs.2 _ _ _ h3
  obtain ⟨s, q4, r4⟩ := opAffs.2 _ _ _ h4
  obtain ⟨p, q5, r5⟩ := opBools.2 _ _ _ h5
  refine ⟨⟨fr, to, m, g, s, p⟩, ⟨q3.1, q4.1, q3.2, q4.2, q5, q0, q1, q2⟩, ?_⟩
  simp only [encE, encE', relC, relCs]
  exact ⟨c0, _, rfl, ⟨rfl, r0⟩, c1, _, rfl, ⟨rfl, r1⟩, c2, _, rfl, ⟨rfl, r2⟩, c3, _, rfl, ⟨rfl, r3⟩, c4, _, rfl, ⟨rfl, r4⟩, c5, _, rfl, ⟨rfl, r5⟩, rfl⟩
end
end Go.Proofs.Ytmgcmljldggllaa

set_option linter.unusedSimpArgs false
set_option linter.unusedVariables false
namespace Go.Proofs.Ytmgcmljldggllaa
open Go Go.Proofs.Hk Go.RowKit Go.WideShapes Go.ChangeShapes
theorem Try.cells9 : Try.prog.cellsOf 9 = 1 := by kernel_rfl
theorem Try.cells93 : Try.prog.cellsOf 93 = 1 := by kernel_rfl
theorem Try.cells95 : Try.prog.cellsOf 95 = 2 := by kernel_rfl
theorem Try.cells84 : Try.prog.cellsOf 84 = 4 := by kernel_rfl
theorem Try.cells91 : Try.prog.cellsOf 91 = 2 := by kernel_rfl
theorem Try.cells53 : Try.prog.cellsOf 53 = 4 := by kernel_rfl
theorem Try.cells48 : Try.prog.cellsOf 48 = 1 := by kernel_rfl
theorem Try.cells49 : Try.prog.cellsOf 49 = 1 := by kernel_rfl
theorem Try.cells50 : Try.prog.cellsOf 50 = 1 := by kernel_rfl
theorem Try.cells51 : Try.prog.cellsOf 51 = 1 := by kernel_rfl
theorem Try.bytes3 : Try.prog.bytesOf 3 = 8 := by kernel_rfl
section
variable {H : Type} {enc : TypeId × Value → H} {w : World}
theorem opStrs : Opens enc Try.prog w 50 (List ByteArray) LSs (fun l => (∀ x ∈ l, x.size ≤ maxLen) ∧ l.length ≤ maxLen) := opens_slice Try.underlying50 Try.cells9 (by decide) (opens_string Try.underlying9)
theorem opPath : OpensW enc Try.prog w 93 (List Int) (fun l => .list .no 1 (l.map ii)) (fun l => l.length ≤ 17592186044416) :=
  ⟨fun _ => by simp [HV.kd], fun f cs d h hf => by
    obtain ⟨l, q, r⟩ := (opensW_slice Try.underlying93 Try.cells3 (by decide) (Opens.toW (opens_int Try.underlying3))).2 f cs d h hf
    have q2 := q.2.1
    rw [Try.bytes3] at q2
    have := reachBytes_lt
    exact ⟨l, by omega, r⟩⟩
theorem opLoc : OpensW enc Try.prog w 95 GLoc encLoc (fun q => q.path.length ≤ 17592186044416) := by
  refine ⟨fun _ => by simp [HV.kd, encLoc], fun fuel cs d h hf => ?_⟩
  obtain ⟨hl, ⟨f0, y0, h0, k0⟩, ⟨f1, y1, h1, _⟩, _⟩ := struct_ofW Try.underlying95 h hf
  rw [Try.cells95] at hl
  obtain ⟨c0, c1, rfl⟩ := len2 hl
  simp only [Try.cells93, Try.cells3] at h0 h1
  obtain ⟨p, q0, r0⟩ := opPath.2 _ _ _ h0 k0
  obtain ⟨n, _, r1⟩ := (opens_int Try.underlying3).2 _ _ _ h1
  refine ⟨⟨p, n⟩, q0, ?_⟩
  simp only [encLoc, relC, relCs]
  exact ⟨c0, _, rfl, ⟨rfl, by simpa [relC] using r0⟩, c1, _, rfl, ⟨rfl, r1⟩, rfl⟩
theorem opLocs : OpensW enc Try.prog w 49 (List GLoc) LLocs (fun l => (∀ q ∈ l, q.path.length ≤ 17592186044416) ∧ l.length ≤ maxLen) :=
  ⟨fun _ => by simp [HV.kd, LLocs], fun f cs d h hf => by
    obtain ⟨l, q, r⟩ := (opensW_slice Try.underlying49 Try.cells95 (by decide) opLoc).2 f cs d h hf
    exact ⟨l, ⟨q.1, q.2.2⟩, r⟩⟩
theorem opEdges : Opens enc Try.prog w 48 (List GE) LEs (fun l => (∀ e ∈ l, LenEd e) ∧ l.length ≤ maxLen) := opens_slice Try.underlying48 Try.cells46 (by decide) opEdge
structure LenVi (v : GV) : Prop where
  g : ∀ a ∈ v.g, LenAf a
  lg : v.g.length ≤ maxLen
theorem opViol : Opens enc Try.prog w 84 GV encV LenVi := by
  refine ⟨fun _ => by simp [HV.kd, encV, encV'], fun fuel cs d h => ?_⟩
  obtain ⟨hl, ⟨f0, y0, h0⟩, ⟨f1, y1, h1⟩, ⟨f2, y2, h2⟩, ⟨f3, y3, h3⟩, _⟩ := struct_of Try.underlying84 h
  rw [Try.cells84] at hl
  obtain ⟨c0, c1, c2, c3, rfl⟩ := len4 hl
  simp only [Try.cells3, Try.cells43] at h0 h1 h2 h3
  obtain ⟨x0, q0, r0⟩ := (opens_int Try.underlying3).2 _ _ _ h0
  obtain ⟨x1, q1, r1⟩ := (opens_int Try.underlying3).2 _ _ _ h1
  obtain ⟨x2, q2, r2⟩ := (opens_int Try.underlying3).2 _ _ _ h2
  obtain ⟨g, q3, r3⟩ := opAffs.2 _ _ _ h3
  refine ⟨⟨x0, x1, x2, g⟩, ⟨q3.1, q3.2⟩, ?_⟩
  simp only [encV, encV', relC, relCs]
  exact ⟨c0, _, rfl, ⟨rfl, r0⟩, c1, _, rfl, ⟨rfl, r1⟩, c2, _, rfl, ⟨rfl, r2⟩, c3, _, rfl, ⟨rfl, r3⟩, rfl⟩
theorem opViols : Opens enc Try.prog w 51 (List GV) LVs (fun l => (∀ v ∈ l, LenVi v) ∧ l.length ≤ maxLen) := opens_slice Try.underlying51 Try.cells84 (by decide) opViol
structure LenLo (l : GLow) : Prop where
  locs : l.locs.length ≤ maxLen
  paths : ∀ q ∈ l.locs, q.path.length ≤ 17592186044416
  slots : l.slots.length ≤ maxLen
  es : ∀ e ∈ l.es, LenEd e
  les : l.es.length ≤ maxLen
  vs : ∀ v ∈ l.vs, LenVi v
  lvs : l.vs.length ≤ maxLen
theorem opLow : OpensW enc Try.prog w 53 GLow encLow LenLo := by
  refine ⟨fun _ => by simp [HV.kd, encLow, encLow'], fun fuel cs d h hf => ?_⟩
  obtain ⟨hl, ⟨f0, y0, h0, k0⟩, ⟨f1, y1, h1, _⟩, ⟨f2, y2, h2, _⟩, ⟨f3, y3, h3, _⟩, _⟩ := struct_ofW Try.underlying53 h hf
  rw [Try.cells53] at hl
  obtain ⟨c0, c1, c2, c3, rfl⟩ := len4 hl
  simp only [Try.cells48, Try.cells49, Try.cells50, Try.cells51] at h0 h1 h2 h3
  obtain ⟨x0, q0, r0⟩ := opLocs.2 _ _ _ h0 k0
  obtain ⟨x1, q1, r1⟩ := opStrs.2 _ _ _ h1
  obtain ⟨x2, q2, r2⟩ := opEdges.2 _ _ _ h2
  obtain ⟨x3, q3, r3⟩ := opViols.2 _ _ _ h3
  refine ⟨⟨x0, x1, x2, x3⟩, ⟨q0.2, q0.1, q1.2, q2.1, q2.2, q3.1, q3.2⟩, ?_⟩
  simp only [encLow, encLow', relC, relCs]
  exact ⟨c0, _, rfl, ⟨rfl, r0⟩, c1, _, rfl, ⟨rfl, r1⟩, c2, _, rfl, ⟨rfl, r2⟩, c3, _, rfl, ⟨rfl, r3⟩, rfl⟩
structure LenCh (c : GC) : Prop where
  w : ∀ g ∈ c.w, LenI g
  lw : c.w.length ≤ maxLen
theorem opChoice : Opens enc Try.prog w 91 GC encCh LenCh := by
  refine ⟨fun _ => by simp [HV.kd, encCh, encCh'], fun fuel cs d h => ?_⟩
  obtain ⟨hl, ⟨f0, y0, h0⟩, ⟨f1, y1, h1⟩, _⟩ := struct_of Try.underlying91 h
  rw [Try.cells91] at hl
  obtain ⟨c0, c1, rfl⟩ := len2 hl
  simp only [Try.cells3, Try.cells37] at h0 h1
  obtain ⟨x0, q0, r0⟩ := (opens_int Try.underlying3).2 _ _ _ h0
  obtain ⟨x1, q1, r1⟩ := opInts.2 _ _ _ h1
  refine ⟨⟨x0, x1⟩, ⟨q1.1, q1.2⟩, ?_⟩
  simp only [encCh, encCh', relC, relCs]
  exact ⟨c0, _, rfl, ⟨rfl, r0⟩, c1, _, rfl, ⟨rfl, by simpa [LIs, relC] using r1⟩, rfl⟩
theorem opChoices : Opens enc Try.prog w 64 (List GC) LCs (fun l => (∀ c ∈ l, LenCh c) ∧ l.length ≤ maxLen) := opens_slice Try.underlying64 Try.cells91 (by decide) opChoice
end
theorem limAf {a : GA} (h : LenAf a) : LimA a := ⟨fun g hg => (h.x g hg).lim, fun g hg => (h.w g hg).lim, h.k.lim⟩
theorem lenAf {a : GA} (h : LenAf a) : LenA a := ⟨Nat.le_trans h.lx maxLen_le, Nat.le_trans h.lw maxLen_le⟩
theorem lenEd {e : GE} (h : LenEd e) : LenE e := ⟨fun a ha => lenAf (h.g a ha), fun a ha => lenAf (h.s a ha), Nat.le_trans h.lg maxLen_le, Nat.le_trans h.ls maxLen_le⟩
theorem lenVi {v : GV} (h : LenVi v) : LenV v := ⟨fun a ha => lenAf (h.g a ha), Nat.le_trans h.lg maxLen_le⟩
theorem lenLo {l : GLow} (h : LenLo l) : LenLow l := ⟨Nat.le_trans h.locs maxLen_le, Nat.le_trans h.slots maxLen_le, Nat.le_trans h.les maxLen_le, Nat.le_trans h.lvs maxLen_le, fun e he => lenEd (h.es e he), fun v hv => lenVi (h.vs v hv)⟩
theorem limLo {l : GLow} (h : LenLo l) : LimLow l := ⟨fun e he => ⟨fun a ha => limAf ((h.es e he).g a ha), fun a ha => limAf ((h.es e he).s a ha)⟩, fun v hv a ha => limAf ((h.vs v hv).g a ha)⟩
theorem WalkPaths_args (l : GLow) (hl : LenLo l) (b : List GI) (hb : (∀ g ∈ b, LenI g) ∧ b.length ≤ maxLen) (c : List GC) (hc : (∀ k ∈ c, LenCh k) ∧ c.length ≤ maxLen) : Pur cx 8 [encLow l, LIs b, LCs c] (bb true) :=
  WalkPaths_spec l b c (lenLo hl) (limLo hl) hl.paths (fun g hg => (hb.1 g hg).lim) (Nat.le_trans hb.2 maxLen_le) (fun k hk => Nat.le_trans (hc.1 k hk).lw maxLen_le) (fun k hk g hg => ((hc.1 k hk).w g hg).lim) (Nat.le_trans hc.2 maxLen_le)
end Go.Proofs.Ytmgcmljldggllaa

/-
  NARROWER THAN 'FOR EVERY INPUT', by the rows' own cells (each row's printed sentence says how): ScopeChecks: loops, laid · ScopeCircles: laid · ScopeNames: loops, laid · ScopeArities: laid · ScopeTwices: laid · ScopeSites: loops, laid · ScopeNumbers: loops, laid · ScopePoints: laid.
  DERIVED. THE GIVEN ROWS OF THIS SEAT. 8 by the template 'for every input the law returns true; each argument reads behind the call as it read before'; 0 by the template 'total and deterministic' (their statements: YtakhpkklopagmaaGreatDoorTotals.lean).
  GIVEN WITH THE SEED: the statements are not yours to turn. If you find one false, say at which input.
  Laid BY PROGRAM, IN A SANDBOX (cutbox-rows.mjs): the forced cells as the released guide's own fill.sh prints them over the translation 3383fbe1a626785c… (all of the seat's roots in one cut). By AI agents, Wed Nov 11 2026. No macro, syntax, notation, axiom, sorry.
-/
import Derived.Test.YtakhpkklopagmaaGreatDoorChecked
import GoSem.Claim
import GoSem.ClaimJoined
import GoSem.ClaimMapViews
import Derived.JoinedTies
import Derived.KernelRfl
namespace Go.Proofs.YtakhpkklopagmaaGreatDoor
/- THE CELL 'sum', in the pinned program and in every row, IS THE sha256 OF THE DUMP (.gsa) THAT YtakhpkklopagmaaGreatDoorProg.lean LOADS. Nothing in Lean hashes anything: it is a label: what it is worth is what the hold of that sum in a sandbox is worth. -/
noncomputable def Tryz.pinned : Pinned := { name := "ytakhpkklopagmaagreatdoor", sum := "3383fbe1a626785cf4789d10413c59237a76df77a27f58b822b4aceed9b856c6", checked := Tryz.checked }
namespace Rows
def none {H : Type} : Left H := { results := [], args := [] }

/- WHAT THE LISTED PACKAGE-LEVEL VARIABLES READ AS WHEN THE CALL BEGINS. Each datum BY PROGRAM (the guide's laid-datum.mjs) off the statement by which the dump's own 'gosem.cut.vars' lays the variable. In a bare row this is a premise. The card (YtakhpkklopagmaaGreatDoorCards.lean) ties it to the program's text. -/
def laid_math_bits_deBruijn32tab {H : Type} : DataW H := .agg [.lit (.int .u8 0), .lit (.int .u8 1), .lit (.int .u8 28), .lit (.int .u8 2), .lit (.int .u8 29), .lit (.int .u8 14), .lit (.int .u8 24), .lit (.int .u8 3), .lit (.int .u8 30), .lit (.int .u8 22), .lit (.int .u8 20), .lit (.int .u8 15), .lit (.int .u8 25), .lit (.int .u8 17), .lit (.int .u8 4), .lit (.int .u8 8), .lit (.int .u8 31), .lit (.int .u8 27), .lit (.int .u8 13), .lit (.int .u8 23), .lit (.int .u8 21), .lit (.int .u8 19), .lit (.int .u8 16), .lit (.int .u8 7), .lit (.int .u8 26), .lit (.int .u8 12), .lit (.int .u8 18), .lit (.int .u8 6), .lit (.int .u8 11), .lit (.int .u8 5), .lit (.int .u8 10), .lit (.int .u8 9)]
def laid_math_bits_deBruijn64tab {H : Type} : DataW H := .agg [.lit (.int .u8 0), .lit (.int .u8 1), .lit (.int .u8 56), .lit (.int .u8 2), .lit (.int .u8 57), .lit (.int .u8 49), .lit (.int .u8 28), .lit (.int .u8 3), .lit (.int .u8 61), .lit (.int .u8 58), .lit (.int .u8 42), .lit (.int .u8 50), .lit (.int .u8 38), .lit (.int .u8 29), .lit (.int .u8 17), .lit (.int .u8 4), .lit (.int .u8 62), .lit (.int .u8 47), .lit (.int .u8 59), .lit (.int .u8 36), .lit (.int .u8 45), .lit (.int .u8 43), .lit (.int .u8 51), .lit (.int .u8 22), .lit (.int .u8 53), .lit (.int .u8 39), .lit (.int .u8 33), .lit (.int .u8 30), .lit (.int .u8 24), .lit (.int .u8 18), .lit (.int .u8 12), .lit (.int .u8 5), .lit (.int .u8 63), .lit (.int .u8 55), .lit (.int .u8 48), .lit (.int .u8 27), .lit (.int .u8 60), .lit (.int .u8 41), .lit (.int .u8 37), .lit (.int .u8 16), .lit (.int .u8 46), .lit (.int .u8 35), .lit (.int .u8 44), .lit (.int .u8 21), .lit (.int .u8 52), .lit (.int .u8 32), .lit (.int .u8 23), .lit (.int .u8 11), .lit (.int .u8 54), .lit (.int .u8 26), .lit (.int .u8 40), .lit (.int .u8 15), .lit (.int .u8 34), .lit (.int .u8 20), .lit (.int .u8 31), .lit (.int .u8 10), .lit (.int .u8 25), .lit (.int .u8 14), .lit (.int .u8 19), .lit (.int .u8 9), .lit (.int .u8 13), .lit (.int .u8 8), .lit (.int .u8 7), .lit (.int .u8 6)]
def laid_internal_strconv_uint64pow10 {H : Type} : DataW H := .agg [.lit (.int .u64 1), .lit (.int .u64 10), .lit (.int .u64 100), .lit (.int .u64 1000), .lit (.int .u64 10000), .lit (.int .u64 100000), .lit (.int .u64 1000000), .lit (.int .u64 10000000), .lit (.int .u64 100000000), .lit (.int .u64 1000000000), .lit (.int .u64 10000000000), .lit (.int .u64 100000000000), .lit (.int .u64 1000000000000), .lit (.int .u64 10000000000000), .lit (.int .u64 100000000000000), .lit (.int .u64 1000000000000000), .lit (.int .u64 10000000000000000), .lit (.int .u64 100000000000000000), .lit (.int .u64 1000000000000000000), .lit (.int .u64 10000000000000000000)]
def laid_strconv_ErrRange {H : Type} : DataW H := .iface "*errors.errorString" (.ptr (.agg [.lit (.string [118, 97, 108, 117, 101, 32, 111, 117, 116, 32, 111, 102, 32, 114, 97, 110, 103, 101])]))
def laid_strconv_ErrSyntax {H : Type} : DataW H := .iface "*errors.errorString" (.ptr (.agg [.lit (.string [105, 110, 118, 97, 108, 105, 100, 32, 115, 121, 110, 116, 97, 120])]))

/-- 'escarpmentlaw10.ScopeChecks': WHATEVER THE INPUT: true; the input reads as it did. -/
def scopeChecksSpec : ChangeSpec := { name := "scopeChecks", fn := fun _ => fun
  | [d] => { results := [.lit (.bool true)], args := [d] }
  | _ => none }
def scopeChecksRow : OpenClaim := { program := "ytakhpkklopagmaagreatdoor", sum := "3383fbe1a626785cf4789d10413c59237a76df77a27f58b822b4aceed9b856c6", func := "escarpment/escarpmentlaw10.ScopeChecks", spec := "scopeChecks", unfollowed := true, recurses := true, named := ["strconv.ErrSyntax", "strconv.ErrRange", "internal/strconv.uint64pow10", "math/bits.deBruijn32tab", "math/bits.deBruijn64tab"], loops := true, apart := false, laid := [("math/bits.deBruijn32tab", laid_math_bits_deBruijn32tab), ("math/bits.deBruijn64tab", laid_math_bits_deBruijn64tab), ("internal/strconv.uint64pow10", laid_internal_strconv_uint64pow10), ("strconv.ErrRange", laid_strconv_ErrRange), ("strconv.ErrSyntax", laid_strconv_ErrSyntax)] }
def ScopeChecksSaid : Prop := scopeChecksRow.holds Tryz.pinned (OpenSpec.ofChange scopeChecksSpec)

/-- ITS FALSE NEIGHBOUR: 'it returns false'. Refute it at one input. -/
def scopeChecksWrong : ChangeSpec := { name := "scopeChecks", fn := fun _ => fun
  | [d] => { results := [.lit (.bool false)], args := [d] }
  | _ => none }
def ScopeChecksWrongFalsely : Prop := scopeChecksRow.holds Tryz.pinned (OpenSpec.ofChange scopeChecksWrong)

/-- 'escarpmentlaw10.ScopeCircles': WHATEVER THE INPUT: true; the input reads as it did. -/
def scopeCirclesSpec : ChangeSpec := { name := "scopeCircles", fn := fun _ => fun
  | [d1, d2] => { results := [.lit (.bool true)], args := [d1, d2] }
  | _ => none }
def scopeCirclesRow : OpenClaim := { program := "ytakhpkklopagmaagreatdoor", sum := "3383fbe1a626785cf4789d10413c59237a76df77a27f58b822b4aceed9b856c6", func := "escarpment/escarpmentlaw10.ScopeCircles", spec := "scopeCircles", unfollowed := true, recurses := true, named := ["strconv.ErrSyntax", "strconv.ErrRange", "internal/strconv.uint64pow10", "math/bits.deBruijn32tab", "math/bits.deBruijn64tab"], apart := false, laid := [("math/bits.deBruijn32tab", laid_math_bits_deBruijn32tab), ("math/bits.deBruijn64tab", laid_math_bits_deBruijn64tab), ("internal/strconv.uint64pow10", laid_internal_strconv_uint64pow10), ("strconv.ErrRange", laid_strconv_ErrRange), ("strconv.ErrSyntax", laid_strconv_ErrSyntax)] }
def ScopeCirclesSaid : Prop := scopeCirclesRow.holds Tryz.pinned (OpenSpec.ofChange scopeCirclesSpec)

/-- ITS FALSE NEIGHBOUR: 'it returns false'. Refute it at one input. -/
def scopeCirclesWrong : ChangeSpec := { name := "scopeCircles", fn := fun _ => fun
  | [d1, d2] => { results := [.lit (.bool false)], args := [d1, d2] }
  | _ => none }
def ScopeCirclesWrongFalsely : Prop := scopeCirclesRow.holds Tryz.pinned (OpenSpec.ofChange scopeCirclesWrong)

/-- 'escarpmentlaw10.ScopeNames': WHATEVER THE INPUT: true; the input reads as it did. -/
def scopeNamesSpec : ChangeSpec := { name := "scopeNames", fn := fun _ => fun
  | [d] => { results := [.lit (.bool true)], args := [d] }
  | _ => none }
def scopeNamesRow : OpenClaim := { program := "ytakhpkklopagmaagreatdoor", sum := "3383fbe1a626785cf4789d10413c59237a76df77a27f58b822b4aceed9b856c6", func := "escarpment/escarpmentlaw10.ScopeNames", spec := "scopeNames", unfollowed := true, recurses := true, named := ["strconv.ErrSyntax", "strconv.ErrRange", "internal/strconv.uint64pow10", "math/bits.deBruijn32tab", "math/bits.deBruijn64tab"], loops := true, apart := false, laid := [("math/bits.deBruijn32tab", laid_math_bits_deBruijn32tab), ("math/bits.deBruijn64tab", laid_math_bits_deBruijn64tab), ("internal/strconv.uint64pow10", laid_internal_strconv_uint64pow10), ("strconv.ErrRange", laid_strconv_ErrRange), ("strconv.ErrSyntax", laid_strconv_ErrSyntax)] }
def ScopeNamesSaid : Prop := scopeNamesRow.holds Tryz.pinned (OpenSpec.ofChange scopeNamesSpec)

/-- ITS FALSE NEIGHBOUR: 'it returns false'. Refute it at one input. -/
def scopeNamesWrong : ChangeSpec := { name := "scopeNames", fn := fun _ => fun
  | [d] => { results := [.lit (.bool false)], args := [d] }
  | _ => none }
def ScopeNamesWrongFalsely : Prop := scopeNamesRow.holds Tryz.pinned (OpenSpec.ofChange scopeNamesWrong)

/-- 'escarpmentlaw10.ScopeArities': WHATEVER THE INPUT: true; the input reads as it did. -/
def scopeAritiesSpec : ChangeSpec := { name := "scopeArities", fn := fun _ => fun
  | [d1, d2, d3, d4] => { results := [.lit (.bool true)], args := [d1, d2, d3, d4] }
  | _ => none }
def scopeAritiesRow : OpenClaim := { program := "ytakhpkklopagmaagreatdoor", sum := "3383fbe1a626785cf4789d10413c59237a76df77a27f58b822b4aceed9b856c6", func := "escarpment/escarpmentlaw10.ScopeArities", spec := "scopeArities", unfollowed := true, recurses := true, named := ["strconv.ErrSyntax", "strconv.ErrRange", "internal/strconv.uint64pow10", "math/bits.deBruijn32tab", "math/bits.deBruijn64tab"], apart := false, laid := [("math/bits.deBruijn32tab", laid_math_bits_deBruijn32tab), ("math/bits.deBruijn64tab", laid_math_bits_deBruijn64tab), ("internal/strconv.uint64pow10", laid_internal_strconv_uint64pow10), ("strconv.ErrRange", laid_strconv_ErrRange), ("strconv.ErrSyntax", laid_strconv_ErrSyntax)] }
def ScopeAritiesSaid : Prop := scopeAritiesRow.holds Tryz.pinned (OpenSpec.ofChange scopeAritiesSpec)

/-- ITS FALSE NEIGHBOUR: 'it returns false'. Refute it at one input. -/
def scopeAritiesWrong : ChangeSpec := { name := "scopeArities", fn := fun _ => fun
  | [d1, d2, d3, d4] => { results := [.lit (.bool false)], args := [d1, d2, d3, d4] }
  | _ => none }
def ScopeAritiesWrongFalsely : Prop := scopeAritiesRow.holds Tryz.pinned (OpenSpec.ofChange scopeAritiesWrong)

/-- 'escarpmentlaw10.ScopeTwices': WHATEVER THE INPUT: true; the input reads as it did. -/
def scopeTwicesSpec : ChangeSpec := { name := "scopeTwices", fn := fun _ => fun
  | [d] => { results := [.lit (.bool true)], args := [d] }
  | _ => none }
def scopeTwicesRow : OpenClaim := { program := "ytakhpkklopagmaagreatdoor", sum := "3383fbe1a626785cf4789d10413c59237a76df77a27f58b822b4aceed9b856c6", func := "escarpment/escarpmentlaw10.ScopeTwices", spec := "scopeTwices", unfollowed := true, recurses := true, named := ["strconv.ErrSyntax", "strconv.ErrRange", "internal/strconv.uint64pow10", "math/bits.deBruijn32tab", "math/bits.deBruijn64tab"], apart := false, laid := [("math/bits.deBruijn32tab", laid_math_bits_deBruijn32tab), ("math/bits.deBruijn64tab", laid_math_bits_deBruijn64tab), ("internal/strconv.uint64pow10", laid_internal_strconv_uint64pow10), ("strconv.ErrRange", laid_strconv_ErrRange), ("strconv.ErrSyntax", laid_strconv_ErrSyntax)] }
def ScopeTwicesSaid : Prop := scopeTwicesRow.holds Tryz.pinned (OpenSpec.ofChange scopeTwicesSpec)

/-- ITS FALSE NEIGHBOUR: 'it returns false'. Refute it at one input. -/
def scopeTwicesWrong : ChangeSpec := { name := "scopeTwices", fn := fun _ => fun
  | [d] => { results := [.lit (.bool false)], args := [d] }
  | _ => none }
def ScopeTwicesWrongFalsely : Prop := scopeTwicesRow.holds Tryz.pinned (OpenSpec.ofChange scopeTwicesWrong)

/-- 'escarpmentlaw10.ScopeSites': WHATEVER THE INPUT: true; the input reads as it did. -/
def scopeSitesSpec : ChangeSpec := { name := "scopeSites", fn := fun _ => fun
  | [d1, d2, d3, d4] => { results := [.lit (.bool true)], args := [d1, d2, d3, d4] }
  | _ => none }
def scopeSitesRow : OpenClaim := { program := "ytakhpkklopagmaagreatdoor", sum := "3383fbe1a626785cf4789d10413c59237a76df77a27f58b822b4aceed9b856c6", func := "escarpment/escarpmentlaw10.ScopeSites", spec := "scopeSites", unfollowed := true, recurses := true, named := ["strconv.ErrSyntax", "strconv.ErrRange", "internal/strconv.uint64pow10", "math/bits.deBruijn32tab", "math/bits.deBruijn64tab"], loops := true, apart := false, laid := [("math/bits.deBruijn32tab", laid_math_bits_deBruijn32tab), ("math/bits.deBruijn64tab", laid_math_bits_deBruijn64tab), ("internal/strconv.uint64pow10", laid_internal_strconv_uint64pow10), ("strconv.ErrRange", laid_strconv_ErrRange), ("strconv.ErrSyntax", laid_strconv_ErrSyntax)] }
def ScopeSitesSaid : Prop := scopeSitesRow.holds Tryz.pinned (OpenSpec.ofChange scopeSitesSpec)

/-- ITS FALSE NEIGHBOUR: 'it returns false'. Refute it at one input. -/
def scopeSitesWrong : ChangeSpec := { name := "scopeSites", fn := fun _ => fun
  | [d1, d2, d3, d4] => { results := [.lit (.bool false)], args := [d1, d2, d3, d4] }
  | _ => none }
def ScopeSitesWrongFalsely : Prop := scopeSitesRow.holds Tryz.pinned (OpenSpec.ofChange scopeSitesWrong)

/-- 'escarpmentlaw10.ScopeNumbers': WHATEVER THE INPUT: true; the input reads as it did. -/
def scopeNumbersSpec : ChangeSpec := { name := "scopeNumbers", fn := fun _ => fun
  | [d] => { results := [.lit (.bool true)], args := [d] }
  | _ => none }
def scopeNumbersRow : OpenClaim := { program := "ytakhpkklopagmaagreatdoor", sum := "3383fbe1a626785cf4789d10413c59237a76df77a27f58b822b4aceed9b856c6", func := "escarpment/escarpmentlaw10.ScopeNumbers", spec := "scopeNumbers", unfollowed := true, recurses := true, named := ["strconv.ErrSyntax", "strconv.ErrRange", "internal/strconv.uint64pow10", "math/bits.deBruijn32tab", "math/bits.deBruijn64tab"], loops := true, apart := false, laid := [("math/bits.deBruijn32tab", laid_math_bits_deBruijn32tab), ("math/bits.deBruijn64tab", laid_math_bits_deBruijn64tab), ("internal/strconv.uint64pow10", laid_internal_strconv_uint64pow10), ("strconv.ErrRange", laid_strconv_ErrRange), ("strconv.ErrSyntax", laid_strconv_ErrSyntax)] }
def ScopeNumbersSaid : Prop := scopeNumbersRow.holds Tryz.pinned (OpenSpec.ofChange scopeNumbersSpec)

/-- ITS FALSE NEIGHBOUR: 'it returns false'. Refute it at one input. -/
def scopeNumbersWrong : ChangeSpec := { name := "scopeNumbers", fn := fun _ => fun
  | [d] => { results := [.lit (.bool false)], args := [d] }
  | _ => none }
def ScopeNumbersWrongFalsely : Prop := scopeNumbersRow.holds Tryz.pinned (OpenSpec.ofChange scopeNumbersWrong)

/-- 'escarpmentlaw10.ScopePoints': WHATEVER THE INPUT: true; the input reads as it did. -/
def scopePointsSpec : ChangeSpec := { name := "scopePoints", fn := fun _ => fun
  | [d1, d2, d3] => { results := [.lit (.bool true)], args := [d1, d2, d3] }
  | _ => none }
def scopePointsRow : OpenClaim := { program := "ytakhpkklopagmaagreatdoor", sum := "3383fbe1a626785cf4789d10413c59237a76df77a27f58b822b4aceed9b856c6", func := "escarpment/escarpmentlaw10.ScopePoints", spec := "scopePoints", unfollowed := true, recurses := true, named := ["strconv.ErrSyntax", "strconv.ErrRange", "internal/strconv.uint64pow10", "math/bits.deBruijn32tab", "math/bits.deBruijn64tab"], apart := false, laid := [("math/bits.deBruijn32tab", laid_math_bits_deBruijn32tab), ("math/bits.deBruijn64tab", laid_math_bits_deBruijn64tab), ("internal/strconv.uint64pow10", laid_internal_strconv_uint64pow10), ("strconv.ErrRange", laid_strconv_ErrRange), ("strconv.ErrSyntax", laid_strconv_ErrSyntax)] }
def ScopePointsSaid : Prop := scopePointsRow.holds Tryz.pinned (OpenSpec.ofChange scopePointsSpec)

/-- ITS FALSE NEIGHBOUR: 'it returns false'. Refute it at one input. -/
def scopePointsWrong : ChangeSpec := { name := "scopePoints", fn := fun _ => fun
  | [d1, d2, d3] => { results := [.lit (.bool false)], args := [d1, d2, d3] }
  | _ => none }
def ScopePointsWrongFalsely : Prop := scopePointsRow.holds Tryz.pinned (OpenSpec.ofChange scopePointsWrong)

/- THE SECOND FORM. 'bulk': how many values and letters a reading holds, each counted each time it is reached (what is shared counts as often as it is met; a slice's spare places count too). A statement '..UptoSaid' is the law's where the arguments, and the package variables that the reading takes, are together of bulk at most 1048576: NARROWER than '..Said'. Prove '..Said' where nothing that the law and all that it calls make is longer than what came in: it says more and counts as full. Else prove '..UptoSaid'. A law counts once. -/
mutual
def uptoBulk {H : Type} : DataW H → Nat
  | .lit (.string bytes) => bytes.length + 1
  | .lit _ => 1
  | .nil => 1
  | .ptr d => uptoBulk d + 1
  | .slice elems spare => uptoBulkAll elems + uptoBulkAll spare + 1
  | .agg parts => uptoBulkAll parts + 1
  | .iface _ d => uptoBulk d + 1
  | .map entries => uptoBulkEntries entries + 1
  | .held _ => 1
def uptoBulkAll {H : Type} : List (DataW H) → Nat
  | [] => 0
  | d :: r => uptoBulk d + uptoBulkAll r
def uptoBulkEntries {H : Type} : List (Lit × DataW H) → Nat
  | [] => 0
  | x :: r => uptoBulkEntry x + uptoBulkEntries r
def uptoBulkEntry {H : Type} : Lit × DataW H → Nat
  | (.string bytes, d) => bytes.length + uptoBulk d + 1
  | (_, d) => uptoBulk d + 1
 end
def uptoSmall : (H : Type) → List (DataW H) → Bool := fun _ ds => decide (uptoBulkAll ds ≤ 1048576)
def OpenSpec.upto (s : _root_.Go.ChangeSpec) : _root_.Go.OpenSpec := { _root_.Go.OpenSpec.ofChange s with cond := some uptoSmall }

/-- 'escarpmentlaw10.ScopeChecks', WHERE WHAT IT READS IS OF BULK AT MOST 1048576: true; the input reads as it did. -/
def scopeChecksUptoRow : OpenClaim := { program := "ytakhpkklopagmaagreatdoor", sum := "3383fbe1a626785cf4789d10413c59237a76df77a27f58b822b4aceed9b856c6", func := "escarpment/escarpmentlaw10.ScopeChecks", spec := "scopeChecks", unfollowed := true, recurses := true, named := ["strconv.ErrSyntax", "strconv.ErrRange", "internal/strconv.uint64pow10", "math/bits.deBruijn32tab", "math/bits.deBruijn64tab"], loops := true, apart := false, laid := [("math/bits.deBruijn32tab", laid_math_bits_deBruijn32tab), ("math/bits.deBruijn64tab", laid_math_bits_deBruijn64tab), ("internal/strconv.uint64pow10", laid_internal_strconv_uint64pow10), ("strconv.ErrRange", laid_strconv_ErrRange), ("strconv.ErrSyntax", laid_strconv_ErrSyntax)], narrowed := true }
def ScopeChecksUptoSaid : Prop := scopeChecksUptoRow.holds Tryz.pinned (OpenSpec.upto scopeChecksSpec)

/-- 'escarpmentlaw10.ScopeCircles', WHERE WHAT IT READS IS OF BULK AT MOST 1048576: true; the input reads as it did. -/
def scopeCirclesUptoRow : OpenClaim := { program := "ytakhpkklopagmaagreatdoor", sum := "3383fbe1a626785cf4789d10413c59237a76df77a27f58b822b4aceed9b856c6", func := "escarpment/escarpmentlaw10.ScopeCircles", spec := "scopeCircles", unfollowed := true, recurses := true, named := ["strconv.ErrSyntax", "strconv.ErrRange", "internal/strconv.uint64pow10", "math/bits.deBruijn32tab", "math/bits.deBruijn64tab"], apart := false, laid := [("math/bits.deBruijn32tab", laid_math_bits_deBruijn32tab), ("math/bits.deBruijn64tab", laid_math_bits_deBruijn64tab), ("internal/strconv.uint64pow10", laid_internal_strconv_uint64pow10), ("strconv.ErrRange", laid_strconv_ErrRange), ("strconv.ErrSyntax", laid_strconv_ErrSyntax)], narrowed := true }
def ScopeCirclesUptoSaid : Prop := scopeCirclesUptoRow.holds Tryz.pinned (OpenSpec.upto scopeCirclesSpec)

/-- 'escarpmentlaw10.ScopeNames', WHERE WHAT IT READS IS OF BULK AT MOST 1048576: true; the input reads as it did. -/
def scopeNamesUptoRow : OpenClaim := { program := "ytakhpkklopagmaagreatdoor", sum := "3383fbe1a626785cf4789d10413c59237a76df77a27f58b822b4aceed9b856c6", func := "escarpment/escarpmentlaw10.ScopeNames", spec := "scopeNames", unfollowed := true, recurses := true, named := ["strconv.ErrSyntax", "strconv.ErrRange", "internal/strconv.uint64pow10", "math/bits.deBruijn32tab", "math/bits.deBruijn64tab"], loops := true, apart := false, laid := [("math/bits.deBruijn32tab", laid_math_bits_deBruijn32tab), ("math/bits.deBruijn64tab", laid_math_bits_deBruijn64tab), ("internal/strconv.uint64pow10", laid_internal_strconv_uint64pow10), ("strconv.ErrRange", laid_strconv_ErrRange), ("strconv.ErrSyntax", laid_strconv_ErrSyntax)], narrowed := true }
def ScopeNamesUptoSaid : Prop := scopeNamesUptoRow.holds Tryz.pinned (OpenSpec.upto scopeNamesSpec)

/-- 'escarpmentlaw10.ScopeArities', WHERE WHAT IT READS IS OF BULK AT MOST 1048576: true; the input reads as it did. -/
def scopeAritiesUptoRow : OpenClaim := { program := "ytakhpkklopagmaagreatdoor", sum := "3383fbe1a626785cf4789d10413c59237a76df77a27f58b822b4aceed9b856c6", func := "escarpment/escarpmentlaw10.ScopeArities", spec := "scopeArities", unfollowed := true, recurses := true, named := ["strconv.ErrSyntax", "strconv.ErrRange", "internal/strconv.uint64pow10", "math/bits.deBruijn32tab", "math/bits.deBruijn64tab"], apart := false, laid := [("math/bits.deBruijn32tab", laid_math_bits_deBruijn32tab), ("math/bits.deBruijn64tab", laid_math_bits_deBruijn64tab), ("internal/strconv.uint64pow10", laid_internal_strconv_uint64pow10), ("strconv.ErrRange", laid_strconv_ErrRange), ("strconv.ErrSyntax", laid_strconv_ErrSyntax)], narrowed := true }
def ScopeAritiesUptoSaid : Prop := scopeAritiesUptoRow.holds Tryz.pinned (OpenSpec.upto scopeAritiesSpec)

/-- 'escarpmentlaw10.ScopeTwices', WHERE WHAT IT READS IS OF BULK AT MOST 1048576: true; the input reads as it did. -/
def scopeTwicesUptoRow : OpenClaim := { program := "ytakhpkklopagmaagreatdoor", sum := "3383fbe1a626785cf4789d10413c59237a76df77a27f58b822b4aceed9b856c6", func := "escarpment/escarpmentlaw10.ScopeTwices", spec := "scopeTwices", unfollowed := true, recurses := true, named := ["strconv.ErrSyntax", "strconv.ErrRange", "internal/strconv.uint64pow10", "math/bits.deBruijn32tab", "math/bits.deBruijn64tab"], apart := false, laid := [("math/bits.deBruijn32tab", laid_math_bits_deBruijn32tab), ("math/bits.deBruijn64tab", laid_math_bits_deBruijn64tab), ("internal/strconv.uint64pow10", laid_internal_strconv_uint64pow10), ("strconv.ErrRange", laid_strconv_ErrRange), ("strconv.ErrSyntax", laid_strconv_ErrSyntax)], narrowed := true }
def ScopeTwicesUptoSaid : Prop := scopeTwicesUptoRow.holds Tryz.pinned (OpenSpec.upto scopeTwicesSpec)

/-- 'escarpmentlaw10.ScopeSites', WHERE WHAT IT READS IS OF BULK AT MOST 1048576: true; the input reads as it did. -/
def scopeSitesUptoRow : OpenClaim := { program := "ytakhpkklopagmaagreatdoor", sum := "3383fbe1a626785cf4789d10413c59237a76df77a27f58b822b4aceed9b856c6", func := "escarpment/escarpmentlaw10.ScopeSites", spec := "scopeSites", unfollowed := true, recurses := true, named := ["strconv.ErrSyntax", "strconv.ErrRange", "internal/strconv.uint64pow10", "math/bits.deBruijn32tab", "math/bits.deBruijn64tab"], loops := true, apart := false, laid := [("math/bits.deBruijn32tab", laid_math_bits_deBruijn32tab), ("math/bits.deBruijn64tab", laid_math_bits_deBruijn64tab), ("internal/strconv.uint64pow10", laid_internal_strconv_uint64pow10), ("strconv.ErrRange", laid_strconv_ErrRange), ("strconv.ErrSyntax", laid_strconv_ErrSyntax)], narrowed := true }
def ScopeSitesUptoSaid : Prop := scopeSitesUptoRow.holds Tryz.pinned (OpenSpec.upto scopeSitesSpec)

/-- 'escarpmentlaw10.ScopeNumbers', WHERE WHAT IT READS IS OF BULK AT MOST 1048576: true; the input reads as it did. -/
def scopeNumbersUptoRow : OpenClaim := { program := "ytakhpkklopagmaagreatdoor", sum := "3383fbe1a626785cf4789d10413c59237a76df77a27f58b822b4aceed9b856c6", func := "escarpment/escarpmentlaw10.ScopeNumbers", spec := "scopeNumbers", unfollowed := true, recurses := true, named := ["strconv.ErrSyntax", "strconv.ErrRange", "internal/strconv.uint64pow10", "math/bits.deBruijn32tab", "math/bits.deBruijn64tab"], loops := true, apart := false, laid := [("math/bits.deBruijn32tab", laid_math_bits_deBruijn32tab), ("math/bits.deBruijn64tab", laid_math_bits_deBruijn64tab), ("internal/strconv.uint64pow10", laid_internal_strconv_uint64pow10), ("strconv.ErrRange", laid_strconv_ErrRange), ("strconv.ErrSyntax", laid_strconv_ErrSyntax)], narrowed := true }
def ScopeNumbersUptoSaid : Prop := scopeNumbersUptoRow.holds Tryz.pinned (OpenSpec.upto scopeNumbersSpec)

/-- 'escarpmentlaw10.ScopePoints', WHERE WHAT IT READS IS OF BULK AT MOST 1048576: true; the input reads as it did. -/
def scopePointsUptoRow : OpenClaim := { program := "ytakhpkklopagmaagreatdoor", sum := "3383fbe1a626785cf4789d10413c59237a76df77a27f58b822b4aceed9b856c6", func := "escarpment/escarpmentlaw10.ScopePoints", spec := "scopePoints", unfollowed := true, recurses := true, named := ["strconv.ErrSyntax", "strconv.ErrRange", "internal/strconv.uint64pow10", "math/bits.deBruijn32tab", "math/bits.deBruijn64tab"], apart := false, laid := [("math/bits.deBruijn32tab", laid_math_bits_deBruijn32tab), ("math/bits.deBruijn64tab", laid_math_bits_deBruijn64tab), ("internal/strconv.uint64pow10", laid_internal_strconv_uint64pow10), ("strconv.ErrRange", laid_strconv_ErrRange), ("strconv.ErrSyntax", laid_strconv_ErrSyntax)], narrowed := true }
def ScopePointsUptoSaid : Prop := scopePointsUptoRow.holds Tryz.pinned (OpenSpec.upto scopePointsSpec)

end Rows
end Go.Proofs.YtakhpkklopagmaaGreatDoor

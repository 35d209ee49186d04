/-
  No cell of these rows narrows 'for every input' (looked for: loops, veiled, ifaces, maps, wideKeys, modest, calm, conditions, laid).
  DERIVED. THE GIVEN ROWS OF THIS SEAT. 6 by the template 'for every input the law returns true; each argument reads behind the call as it read before'; 0 by the template 'total and deterministic' (their statements: YtmgcmljldggllaaTotals.lean).
  GIVEN WITH THE SEED: the statements are not yours to turn. If you find one false, say at which input.
  Laid BY PROGRAM, IN A SANDBOX (cutbox-rows.mjs): the forced cells as the released guide's own fill.sh prints them over the translation 33a08703eaa6aecf… (all of the seat's roots in one cut). By AI agents, Wed Nov 11 2026. No macro, syntax, notation, axiom, sorry.
-/
import Derived.Test.YtmgcmljldggllaaChecked
import GoSem.Claim
import GoSem.ClaimJoined
import GoSem.ClaimMapViews
import Derived.JoinedTies
import Derived.KernelRfl
namespace Go.Proofs.Ytmgcmljldggllaa
/- THE CELL 'sum', in the pinned program and in every row, IS THE sha256 OF THE DUMP (.gsa) THAT YtmgcmljldggllaaProg.lean LOADS. Nothing in Lean hashes anything: it is a label: what it is worth is what the hold of that sum in a sandbox is worth. -/
noncomputable def Try.pinned : Pinned := { name := "ytmgcmljldggllaa", sum := "33a08703eaa6aecfbc6ed8fb34472acec8b371477702ee915565677074eb4531", checked := Try.checked }
namespace Rows
def none {H : Type} : Left H := { results := [], args := [] }

/-- 'escarpmentlaw7.LexReads': WHATEVER THE INPUT: true; the input reads as it did. -/
def lexReadsSpec : ChangeSpec := { name := "lexReads", fn := fun _ => fun
  | [d] => { results := [.lit (.bool true)], args := [d] }
  | _ => none }
def lexReadsRow : OpenClaim := { program := "ytmgcmljldggllaa", sum := "33a08703eaa6aecfbc6ed8fb34472acec8b371477702ee915565677074eb4531", func := "escarpment/escarpmentlaw7.LexReads", spec := "lexReads", unfollowed := true, recurses := true, apart := false }
def LexReadsSaid : Prop := lexReadsRow.holds Try.pinned (OpenSpec.ofChange lexReadsSpec)

/-- ITS FALSE NEIGHBOUR: 'it returns false'. Refute it at one input. -/
def lexReadsWrong : ChangeSpec := { name := "lexReads", fn := fun _ => fun
  | [d] => { results := [.lit (.bool false)], args := [d] }
  | _ => none }
def LexReadsWrongFalsely : Prop := lexReadsRow.holds Try.pinned (OpenSpec.ofChange lexReadsWrong)

/-- 'escarpmentlaw7.LexTexts': WHATEVER THE INPUT: true; the input reads as it did. -/
def lexTextsSpec : ChangeSpec := { name := "lexTexts", fn := fun _ => fun
  | [d] => { results := [.lit (.bool true)], args := [d] }
  | _ => none }
def lexTextsRow : OpenClaim := { program := "ytmgcmljldggllaa", sum := "33a08703eaa6aecfbc6ed8fb34472acec8b371477702ee915565677074eb4531", func := "escarpment/escarpmentlaw7.LexTexts", spec := "lexTexts", unfollowed := true, recurses := true, apart := false }
def LexTextsSaid : Prop := lexTextsRow.holds Try.pinned (OpenSpec.ofChange lexTextsSpec)

/-- ITS FALSE NEIGHBOUR: 'it returns false'. Refute it at one input. -/
def lexTextsWrong : ChangeSpec := { name := "lexTexts", fn := fun _ => fun
  | [d] => { results := [.lit (.bool false)], args := [d] }
  | _ => none }
def LexTextsWrongFalsely : Prop := lexTextsRow.holds Try.pinned (OpenSpec.ofChange lexTextsWrong)

/-- 'escarpmentlaw7.LexJoins': WHATEVER THE INPUT: true; the input reads as it did. -/
def lexJoinsSpec : ChangeSpec := { name := "lexJoins", fn := fun _ => fun
  | [d1, d2, d3] => { results := [.lit (.bool true)], args := [d1, d2, d3] }
  | _ => none }
def lexJoinsRow : OpenClaim := { program := "ytmgcmljldggllaa", sum := "33a08703eaa6aecfbc6ed8fb34472acec8b371477702ee915565677074eb4531", func := "escarpment/escarpmentlaw7.LexJoins", spec := "lexJoins", unfollowed := true, recurses := true, apart := false }
def LexJoinsSaid : Prop := lexJoinsRow.holds Try.pinned (OpenSpec.ofChange lexJoinsSpec)

/-- ITS FALSE NEIGHBOUR: 'it returns false'. Refute it at one input. -/
def lexJoinsWrong : ChangeSpec := { name := "lexJoins", fn := fun _ => fun
  | [d1, d2, d3] => { results := [.lit (.bool false)], args := [d1, d2, d3] }
  | _ => none }
def LexJoinsWrongFalsely : Prop := lexJoinsRow.holds Try.pinned (OpenSpec.ofChange lexJoinsWrong)

/-- 'escarpmentlaw7.LexLimits': WHATEVER THE INPUT: true; the input reads as it did. -/
def lexLimitsSpec : ChangeSpec := { name := "lexLimits", fn := fun _ => fun
  | [d1, d2] => { results := [.lit (.bool true)], args := [d1, d2] }
  | _ => none }
def lexLimitsRow : OpenClaim := { program := "ytmgcmljldggllaa", sum := "33a08703eaa6aecfbc6ed8fb34472acec8b371477702ee915565677074eb4531", func := "escarpment/escarpmentlaw7.LexLimits", spec := "lexLimits", unfollowed := true, recurses := true, apart := false }
def LexLimitsSaid : Prop := lexLimitsRow.holds Try.pinned (OpenSpec.ofChange lexLimitsSpec)

/-- ITS FALSE NEIGHBOUR: 'it returns false'. Refute it at one input. -/
def lexLimitsWrong : ChangeSpec := { name := "lexLimits", fn := fun _ => fun
  | [d1, d2] => { results := [.lit (.bool false)], args := [d1, d2] }
  | _ => none }
def LexLimitsWrongFalsely : Prop := lexLimitsRow.holds Try.pinned (OpenSpec.ofChange lexLimitsWrong)

/-- 'escarpmentlaw16.WalkGoes': WHATEVER THE INPUT: true; the input reads as it did. -/
def walkGoesSpec : ChangeSpec := { name := "walkGoes", fn := fun _ => fun
  | [d1, d2, d3, d4] => { results := [.lit (.bool true)], args := [d1, d2, d3, d4] }
  | _ => none }
def walkGoesRow : OpenClaim := { program := "ytmgcmljldggllaa", sum := "33a08703eaa6aecfbc6ed8fb34472acec8b371477702ee915565677074eb4531", func := "escarpment/escarpmentlaw16.WalkGoes", spec := "walkGoes", apart := false }
def WalkGoesSaid : Prop := walkGoesRow.holds Try.pinned (OpenSpec.ofChange walkGoesSpec)

/-- ITS FALSE NEIGHBOUR: 'it returns false'. Refute it at one input. -/
def walkGoesWrong : ChangeSpec := { name := "walkGoes", fn := fun _ => fun
  | [d1, d2, d3, d4] => { results := [.lit (.bool false)], args := [d1, d2, d3, d4] }
  | _ => none }
def WalkGoesWrongFalsely : Prop := walkGoesRow.holds Try.pinned (OpenSpec.ofChange walkGoesWrong)

/-- 'escarpmentlaw16.WalkPaths': WHATEVER THE INPUT: true; the input reads as it did. -/
def walkPathsSpec : ChangeSpec := { name := "walkPaths", fn := fun _ => fun
  | [d1, d2, d3] => { results := [.lit (.bool true)], args := [d1, d2, d3] }
  | _ => none }
def walkPathsRow : OpenClaim := { program := "ytmgcmljldggllaa", sum := "33a08703eaa6aecfbc6ed8fb34472acec8b371477702ee915565677074eb4531", func := "escarpment/escarpmentlaw16.WalkPaths", spec := "walkPaths", unfollowed := true, recurses := true, apart := false }
def WalkPathsSaid : Prop := walkPathsRow.holds Try.pinned (OpenSpec.ofChange walkPathsSpec)

/-- ITS FALSE NEIGHBOUR: 'it returns false'. Refute it at one input. -/
def walkPathsWrong : ChangeSpec := { name := "walkPaths", fn := fun _ => fun
  | [d1, d2, d3] => { results := [.lit (.bool false)], args := [d1, d2, d3] }
  | _ => none }
def WalkPathsWrongFalsely : Prop := walkPathsRow.holds Try.pinned (OpenSpec.ofChange walkPathsWrong)

/- THE SECOND FORM. 'bulk': how many values and letters a reading holds, each counted each time it is reached (what is shared counts as often as it is met; a slice's spare places count too). A statement '..UptoSaid' is the law's where the arguments, and the package variables that the reading takes, are together of bulk at most 1048576: NARROWER than '..Said'. Prove '..Said' where nothing that the law and all that it calls make is longer than what came in: it says more and counts as full. Else prove '..UptoSaid'. A law counts once. -/
mutual
def uptoBulk {H : Type} : DataW H → Nat
  | .lit (.string bytes) => bytes.length + 1
  | .lit _ => 1
  | .nil => 1
  | .ptr d => uptoBulk d + 1
  | .slice elems spare => uptoBulkAll elems + uptoBulkAll spare + 1
  | .agg parts => uptoBulkAll parts + 1
  | .iface _ d => uptoBulk d + 1
  | .map entries => uptoBulkEntries entries + 1
  | .held _ => 1
def uptoBulkAll {H : Type} : List (DataW H) → Nat
  | [] => 0
  | d :: r => uptoBulk d + uptoBulkAll r
def uptoBulkEntries {H : Type} : List (Lit × DataW H) → Nat
  | [] => 0
  | x :: r => uptoBulkEntry x + uptoBulkEntries r
def uptoBulkEntry {H : Type} : Lit × DataW H → Nat
  | (.string bytes, d) => bytes.length + uptoBulk d + 1
  | (_, d) => uptoBulk d + 1
 end
def uptoSmall : (H : Type) → List (DataW H) → Bool := fun _ ds => decide (uptoBulkAll ds ≤ 1048576)
def OpenSpec.upto (s : _root_.Go.ChangeSpec) : _root_.Go.OpenSpec := { _root_.Go.OpenSpec.ofChange s with cond := some uptoSmall }

/-- 'escarpmentlaw7.LexReads', WHERE WHAT IT READS IS OF BULK AT MOST 1048576: true; the input reads as it did. -/
def lexReadsUptoRow : OpenClaim := { program := "ytmgcmljldggllaa", sum := "33a08703eaa6aecfbc6ed8fb34472acec8b371477702ee915565677074eb4531", func := "escarpment/escarpmentlaw7.LexReads", spec := "lexReads", unfollowed := true, recurses := true, apart := false, narrowed := true }
def LexReadsUptoSaid : Prop := lexReadsUptoRow.holds Try.pinned (OpenSpec.upto lexReadsSpec)

/-- 'escarpmentlaw7.LexTexts', WHERE WHAT IT READS IS OF BULK AT MOST 1048576: true; the input reads as it did. -/
def lexTextsUptoRow : OpenClaim := { program := "ytmgcmljldggllaa", sum := "33a08703eaa6aecfbc6ed8fb34472acec8b371477702ee915565677074eb4531", func := "escarpment/escarpmentlaw7.LexTexts", spec := "lexTexts", unfollowed := true, recurses := true, apart := false, narrowed := true }
def LexTextsUptoSaid : Prop := lexTextsUptoRow.holds Try.pinned (OpenSpec.upto lexTextsSpec)

/-- 'escarpmentlaw7.LexJoins', WHERE WHAT IT READS IS OF BULK AT MOST 1048576: true; the input reads as it did. -/
def lexJoinsUptoRow : OpenClaim := { program := "ytmgcmljldggllaa", sum := "33a08703eaa6aecfbc6ed8fb34472acec8b371477702ee915565677074eb4531", func := "escarpment/escarpmentlaw7.LexJoins", spec := "lexJoins", unfollowed := true, recurses := true, apart := false, narrowed := true }
def LexJoinsUptoSaid : Prop := lexJoinsUptoRow.holds Try.pinned (OpenSpec.upto lexJoinsSpec)

/-- 'escarpmentlaw7.LexLimits', WHERE WHAT IT READS IS OF BULK AT MOST 1048576: true; the input reads as it did. -/
def lexLimitsUptoRow : OpenClaim := { program := "ytmgcmljldggllaa", sum := "33a08703eaa6aecfbc6ed8fb34472acec8b371477702ee915565677074eb4531", func := "escarpment/escarpmentlaw7.LexLimits", spec := "lexLimits", unfollowed := true, recurses := true, apart := false, narrowed := true }
def LexLimitsUptoSaid : Prop := lexLimitsUptoRow.holds Try.pinned (OpenSpec.upto lexLimitsSpec)

/-- 'escarpmentlaw16.WalkGoes', WHERE WHAT IT READS IS OF BULK AT MOST 1048576: true; the input reads as it did. -/
def walkGoesUptoRow : OpenClaim := { program := "ytmgcmljldggllaa", sum := "33a08703eaa6aecfbc6ed8fb34472acec8b371477702ee915565677074eb4531", func := "escarpment/escarpmentlaw16.WalkGoes", spec := "walkGoes", apart := false, narrowed := true }
def WalkGoesUptoSaid : Prop := walkGoesUptoRow.holds Try.pinned (OpenSpec.upto walkGoesSpec)

/-- 'escarpmentlaw16.WalkPaths', WHERE WHAT IT READS IS OF BULK AT MOST 1048576: true; the input reads as it did. -/
def walkPathsUptoRow : OpenClaim := { program := "ytmgcmljldggllaa", sum := "33a08703eaa6aecfbc6ed8fb34472acec8b371477702ee915565677074eb4531", func := "escarpment/escarpmentlaw16.WalkPaths", spec := "walkPaths", unfollowed := true, recurses := true, apart := false, narrowed := true }
def WalkPathsUptoSaid : Prop := walkPathsUptoRow.holds Try.pinned (OpenSpec.upto walkPathsSpec)

end Rows
end Go.Proofs.Ytmgcmljldggllaa

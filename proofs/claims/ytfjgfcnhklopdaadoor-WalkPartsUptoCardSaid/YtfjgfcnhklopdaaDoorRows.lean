/-
  NARROWER THAN 'FOR EVERY INPUT', by the rows' own cells (each row's printed sentence says how): StepAll: laid · StepDoes: laid · WalkParts: laid · WalkNamed: laid · StepBinds: laid · StepParts: laid · ProofChecks: laid · ProofTurns: laid · ProofBegins: laid · ProofInside: laid.
  DERIVED. THE GIVEN ROWS OF THIS SEAT. 10 by the template 'for every input the law returns true; each argument reads behind the call as it read before'; 0 by the template 'total and deterministic' (their statements: YtfjgfcnhklopdaaDoorTotals.lean).
  GIVEN WITH THE SEED: the statements are not yours to turn. If you find one false, say at which input.
  Laid BY PROGRAM, IN A SANDBOX (cutbox-rows.mjs): the forced cells as the released guide's own fill.sh prints them over the translation f519bdcf141a0645… (all of the seat's roots in one cut). By AI agents, Wed Nov 11 2026. No macro, syntax, notation, axiom, sorry.
-/
import Derived.Test.YtfjgfcnhklopdaaDoorChecked
import GoSem.PinnedTables
import GoSem.Claim
import GoSem.ClaimJoined
import GoSem.ClaimMapViews
import Derived.JoinedTies
import Derived.KernelRfl
namespace Go.Proofs.YtfjgfcnhklopdaaDoor
/- THE CELL 'sum', in the pinned program and in every row, IS THE sha256 OF THE DUMP (.gsa) THAT YtfjgfcnhklopdaaDoorProg.lean LOADS. Nothing in Lean hashes anything: it is a label: what it is worth is what the hold of that sum in a sandbox is worth. -/
noncomputable def Tryd.pinned : Pinned := { name := "ytfjgfcnhklopdaadoor", sum := "f519bdcf141a06450372a51a09d8e9a739cf34bdeba6b5d69bd398588ef6d330", checked := Tryd.checked }
namespace Rows
def none {H : Type} : Left H := { results := [], args := [] }

/- WHAT THE LISTED PACKAGE-LEVEL VARIABLES READ AS WHEN THE CALL BEGINS. Each datum BY PROGRAM (the guide's laid-datum.mjs) off the statement by which the dump's own 'gosem.cut.vars' lays the variable. In a bare row this is a premise. The card (YtfjgfcnhklopdaaDoorCards.lean) ties it to the program's text. -/
def laid_unicode_utf8_acceptRanges {H : Type} : DataW H := .agg [.agg [.lit (.int .u8 128), .lit (.int .u8 191)], .agg [.lit (.int .u8 160), .lit (.int .u8 191)], .agg [.lit (.int .u8 128), .lit (.int .u8 159)], .agg [.lit (.int .u8 144), .lit (.int .u8 191)], .agg [.lit (.int .u8 128), .lit (.int .u8 143)], .agg [.lit (.int .u8 0), .lit (.int .u8 0)], .agg [.lit (.int .u8 0), .lit (.int .u8 0)], .agg [.lit (.int .u8 0), .lit (.int .u8 0)], .agg [.lit (.int .u8 0), .lit (.int .u8 0)], .agg [.lit (.int .u8 0), .lit (.int .u8 0)], .agg [.lit (.int .u8 0), .lit (.int .u8 0)], .agg [.lit (.int .u8 0), .lit (.int .u8 0)], .agg [.lit (.int .u8 0), .lit (.int .u8 0)], .agg [.lit (.int .u8 0), .lit (.int .u8 0)], .agg [.lit (.int .u8 0), .lit (.int .u8 0)], .agg [.lit (.int .u8 0), .lit (.int .u8 0)]]
/-- One of Go's own tables, pinned by name: the form's constant. -/
def laid_unicode_utf8_first : DataW Unit := Go.Pinned.utf8First

/-- 'lodestonelaw08.StepAll': WHATEVER THE INPUT: true; the input reads as it did. -/
def stepAllSpec : ChangeSpec := { name := "stepAll", fn := fun _ => fun
  | [d1, d2] => { results := [.lit (.bool true)], args := [d1, d2] }
  | _ => none }
def stepAllRow : OpenClaim := { program := "ytfjgfcnhklopdaadoor", sum := "f519bdcf141a06450372a51a09d8e9a739cf34bdeba6b5d69bd398588ef6d330", func := "lodestone/lodestonelaw08.StepAll", spec := "stepAll", unfollowed := true, recurses := true, named := ["unicode/utf8.first", "unicode/utf8.acceptRanges"], apart := false, laid := [("unicode/utf8.acceptRanges", laid_unicode_utf8_acceptRanges), ("unicode/utf8.first", laid_unicode_utf8_first)] }
def StepAllSaid : Prop := stepAllRow.holds Tryd.pinned (OpenSpec.ofChange stepAllSpec)

/-- ITS FALSE NEIGHBOUR: 'it returns false'. Refute it at one input. -/
def stepAllWrong : ChangeSpec := { name := "stepAll", fn := fun _ => fun
  | [d1, d2] => { results := [.lit (.bool false)], args := [d1, d2] }
  | _ => none }
def StepAllWrongFalsely : Prop := stepAllRow.holds Tryd.pinned (OpenSpec.ofChange stepAllWrong)

/-- 'lodestonelaw08.StepDoes': WHATEVER THE INPUT: true; the input reads as it did. -/
def stepDoesSpec : ChangeSpec := { name := "stepDoes", fn := fun _ => fun
  | [d1, d2, d3] => { results := [.lit (.bool true)], args := [d1, d2, d3] }
  | _ => none }
def stepDoesRow : OpenClaim := { program := "ytfjgfcnhklopdaadoor", sum := "f519bdcf141a06450372a51a09d8e9a739cf34bdeba6b5d69bd398588ef6d330", func := "lodestone/lodestonelaw08.StepDoes", spec := "stepDoes", unfollowed := true, recurses := true, named := ["unicode/utf8.first", "unicode/utf8.acceptRanges"], apart := false, laid := [("unicode/utf8.acceptRanges", laid_unicode_utf8_acceptRanges), ("unicode/utf8.first", laid_unicode_utf8_first)] }
def StepDoesSaid : Prop := stepDoesRow.holds Tryd.pinned (OpenSpec.ofChange stepDoesSpec)

/-- ITS FALSE NEIGHBOUR: 'it returns false'. Refute it at one input. -/
def stepDoesWrong : ChangeSpec := { name := "stepDoes", fn := fun _ => fun
  | [d1, d2, d3] => { results := [.lit (.bool false)], args := [d1, d2, d3] }
  | _ => none }
def StepDoesWrongFalsely : Prop := stepDoesRow.holds Tryd.pinned (OpenSpec.ofChange stepDoesWrong)

/-- 'lodestonelaw09.WalkParts': WHATEVER THE INPUT: true; the input reads as it did. -/
def walkPartsSpec : ChangeSpec := { name := "walkParts", fn := fun _ => fun
  | [d1, d2, d3] => { results := [.lit (.bool true)], args := [d1, d2, d3] }
  | _ => none }
def walkPartsRow : OpenClaim := { program := "ytfjgfcnhklopdaadoor", sum := "f519bdcf141a06450372a51a09d8e9a739cf34bdeba6b5d69bd398588ef6d330", func := "lodestone/lodestonelaw09.WalkParts", spec := "walkParts", unfollowed := true, recurses := true, named := ["unicode/utf8.first", "unicode/utf8.acceptRanges"], apart := false, laid := [("unicode/utf8.acceptRanges", laid_unicode_utf8_acceptRanges), ("unicode/utf8.first", laid_unicode_utf8_first)] }
def WalkPartsSaid : Prop := walkPartsRow.holds Tryd.pinned (OpenSpec.ofChange walkPartsSpec)

/-- ITS FALSE NEIGHBOUR: 'it returns false'. Refute it at one input. -/
def walkPartsWrong : ChangeSpec := { name := "walkParts", fn := fun _ => fun
  | [d1, d2, d3] => { results := [.lit (.bool false)], args := [d1, d2, d3] }
  | _ => none }
def WalkPartsWrongFalsely : Prop := walkPartsRow.holds Tryd.pinned (OpenSpec.ofChange walkPartsWrong)

/-- 'lodestonelaw09.WalkNamed': WHATEVER THE INPUT: true; the input reads as it did. -/
def walkNamedSpec : ChangeSpec := { name := "walkNamed", fn := fun _ => fun
  | [d1, d2, d3] => { results := [.lit (.bool true)], args := [d1, d2, d3] }
  | _ => none }
def walkNamedRow : OpenClaim := { program := "ytfjgfcnhklopdaadoor", sum := "f519bdcf141a06450372a51a09d8e9a739cf34bdeba6b5d69bd398588ef6d330", func := "lodestone/lodestonelaw09.WalkNamed", spec := "walkNamed", unfollowed := true, recurses := true, named := ["unicode/utf8.first", "unicode/utf8.acceptRanges"], apart := false, laid := [("unicode/utf8.acceptRanges", laid_unicode_utf8_acceptRanges), ("unicode/utf8.first", laid_unicode_utf8_first)] }
def WalkNamedSaid : Prop := walkNamedRow.holds Tryd.pinned (OpenSpec.ofChange walkNamedSpec)

/-- ITS FALSE NEIGHBOUR: 'it returns false'. Refute it at one input. -/
def walkNamedWrong : ChangeSpec := { name := "walkNamed", fn := fun _ => fun
  | [d1, d2, d3] => { results := [.lit (.bool false)], args := [d1, d2, d3] }
  | _ => none }
def WalkNamedWrongFalsely : Prop := walkNamedRow.holds Tryd.pinned (OpenSpec.ofChange walkNamedWrong)

/-- 'lodestonelaw08.StepBinds': WHATEVER THE INPUT: true; the input reads as it did. -/
def stepBindsSpec : ChangeSpec := { name := "stepBinds", fn := fun _ => fun
  | [d1, d2, d3] => { results := [.lit (.bool true)], args := [d1, d2, d3] }
  | _ => none }
def stepBindsRow : OpenClaim := { program := "ytfjgfcnhklopdaadoor", sum := "f519bdcf141a06450372a51a09d8e9a739cf34bdeba6b5d69bd398588ef6d330", func := "lodestone/lodestonelaw08.StepBinds", spec := "stepBinds", unfollowed := true, recurses := true, named := ["unicode/utf8.first", "unicode/utf8.acceptRanges"], apart := false, laid := [("unicode/utf8.acceptRanges", laid_unicode_utf8_acceptRanges), ("unicode/utf8.first", laid_unicode_utf8_first)] }
def StepBindsSaid : Prop := stepBindsRow.holds Tryd.pinned (OpenSpec.ofChange stepBindsSpec)

/-- ITS FALSE NEIGHBOUR: 'it returns false'. Refute it at one input. -/
def stepBindsWrong : ChangeSpec := { name := "stepBinds", fn := fun _ => fun
  | [d1, d2, d3] => { results := [.lit (.bool false)], args := [d1, d2, d3] }
  | _ => none }
def StepBindsWrongFalsely : Prop := stepBindsRow.holds Tryd.pinned (OpenSpec.ofChange stepBindsWrong)

/-- 'lodestonelaw08.StepParts': WHATEVER THE INPUT: true; the input reads as it did. -/
def stepPartsSpec : ChangeSpec := { name := "stepParts", fn := fun _ => fun
  | [d1, d2] => { results := [.lit (.bool true)], args := [d1, d2] }
  | _ => none }
def stepPartsRow : OpenClaim := { program := "ytfjgfcnhklopdaadoor", sum := "f519bdcf141a06450372a51a09d8e9a739cf34bdeba6b5d69bd398588ef6d330", func := "lodestone/lodestonelaw08.StepParts", spec := "stepParts", unfollowed := true, recurses := true, named := ["unicode/utf8.first", "unicode/utf8.acceptRanges"], apart := false, laid := [("unicode/utf8.acceptRanges", laid_unicode_utf8_acceptRanges), ("unicode/utf8.first", laid_unicode_utf8_first)] }
def StepPartsSaid : Prop := stepPartsRow.holds Tryd.pinned (OpenSpec.ofChange stepPartsSpec)

/-- ITS FALSE NEIGHBOUR: 'it returns false'. Refute it at one input. -/
def stepPartsWrong : ChangeSpec := { name := "stepParts", fn := fun _ => fun
  | [d1, d2] => { results := [.lit (.bool false)], args := [d1, d2] }
  | _ => none }
def StepPartsWrongFalsely : Prop := stepPartsRow.holds Tryd.pinned (OpenSpec.ofChange stepPartsWrong)

/-- 'lodestonelaw19.ProofChecks': WHATEVER THE INPUT: true; the input reads as it did. -/
def proofChecksSpec : ChangeSpec := { name := "proofChecks", fn := fun _ => fun
  | [d1, d2, d3] => { results := [.lit (.bool true)], args := [d1, d2, d3] }
  | _ => none }
def proofChecksRow : OpenClaim := { program := "ytfjgfcnhklopdaadoor", sum := "f519bdcf141a06450372a51a09d8e9a739cf34bdeba6b5d69bd398588ef6d330", func := "lodestone/lodestonelaw19.ProofChecks", spec := "proofChecks", unfollowed := true, recurses := true, named := ["unicode/utf8.first", "unicode/utf8.acceptRanges"], apart := false, laid := [("unicode/utf8.acceptRanges", laid_unicode_utf8_acceptRanges), ("unicode/utf8.first", laid_unicode_utf8_first)] }
def ProofChecksSaid : Prop := proofChecksRow.holds Tryd.pinned (OpenSpec.ofChange proofChecksSpec)

/-- ITS FALSE NEIGHBOUR: 'it returns false'. Refute it at one input. -/
def proofChecksWrong : ChangeSpec := { name := "proofChecks", fn := fun _ => fun
  | [d1, d2, d3] => { results := [.lit (.bool false)], args := [d1, d2, d3] }
  | _ => none }
def ProofChecksWrongFalsely : Prop := proofChecksRow.holds Tryd.pinned (OpenSpec.ofChange proofChecksWrong)

/-- 'lodestonelaw19.ProofTurns': WHATEVER THE INPUT: true; the input reads as it did. -/
def proofTurnsSpec : ChangeSpec := { name := "proofTurns", fn := fun _ => fun
  | [d] => { results := [.lit (.bool true)], args := [d] }
  | _ => none }
def proofTurnsRow : OpenClaim := { program := "ytfjgfcnhklopdaadoor", sum := "f519bdcf141a06450372a51a09d8e9a739cf34bdeba6b5d69bd398588ef6d330", func := "lodestone/lodestonelaw19.ProofTurns", spec := "proofTurns", unfollowed := true, recurses := true, named := ["unicode/utf8.first", "unicode/utf8.acceptRanges"], apart := false, laid := [("unicode/utf8.acceptRanges", laid_unicode_utf8_acceptRanges), ("unicode/utf8.first", laid_unicode_utf8_first)] }
def ProofTurnsSaid : Prop := proofTurnsRow.holds Tryd.pinned (OpenSpec.ofChange proofTurnsSpec)

/-- ITS FALSE NEIGHBOUR: 'it returns false'. Refute it at one input. -/
def proofTurnsWrong : ChangeSpec := { name := "proofTurns", fn := fun _ => fun
  | [d] => { results := [.lit (.bool false)], args := [d] }
  | _ => none }
def ProofTurnsWrongFalsely : Prop := proofTurnsRow.holds Tryd.pinned (OpenSpec.ofChange proofTurnsWrong)

/-- 'lodestonelaw19.ProofBegins': WHATEVER THE INPUT: true; the input reads as it did. -/
def proofBeginsSpec : ChangeSpec := { name := "proofBegins", fn := fun _ => fun
  | [d1, d2, d3] => { results := [.lit (.bool true)], args := [d1, d2, d3] }
  | _ => none }
def proofBeginsRow : OpenClaim := { program := "ytfjgfcnhklopdaadoor", sum := "f519bdcf141a06450372a51a09d8e9a739cf34bdeba6b5d69bd398588ef6d330", func := "lodestone/lodestonelaw19.ProofBegins", spec := "proofBegins", unfollowed := true, recurses := true, named := ["unicode/utf8.first", "unicode/utf8.acceptRanges"], apart := false, laid := [("unicode/utf8.acceptRanges", laid_unicode_utf8_acceptRanges), ("unicode/utf8.first", laid_unicode_utf8_first)] }
def ProofBeginsSaid : Prop := proofBeginsRow.holds Tryd.pinned (OpenSpec.ofChange proofBeginsSpec)

/-- ITS FALSE NEIGHBOUR: 'it returns false'. Refute it at one input. -/
def proofBeginsWrong : ChangeSpec := { name := "proofBegins", fn := fun _ => fun
  | [d1, d2, d3] => { results := [.lit (.bool false)], args := [d1, d2, d3] }
  | _ => none }
def ProofBeginsWrongFalsely : Prop := proofBeginsRow.holds Tryd.pinned (OpenSpec.ofChange proofBeginsWrong)

/-- 'lodestonelaw19.ProofInside': WHATEVER THE INPUT: true; the input reads as it did. -/
def proofInsideSpec : ChangeSpec := { name := "proofInside", fn := fun _ => fun
  | [d1, d2, d3] => { results := [.lit (.bool true)], args := [d1, d2, d3] }
  | _ => none }
def proofInsideRow : OpenClaim := { program := "ytfjgfcnhklopdaadoor", sum := "f519bdcf141a06450372a51a09d8e9a739cf34bdeba6b5d69bd398588ef6d330", func := "lodestone/lodestonelaw19.ProofInside", spec := "proofInside", unfollowed := true, recurses := true, named := ["unicode/utf8.first", "unicode/utf8.acceptRanges"], apart := false, laid := [("unicode/utf8.acceptRanges", laid_unicode_utf8_acceptRanges), ("unicode/utf8.first", laid_unicode_utf8_first)] }
def ProofInsideSaid : Prop := proofInsideRow.holds Tryd.pinned (OpenSpec.ofChange proofInsideSpec)

/-- ITS FALSE NEIGHBOUR: 'it returns false'. Refute it at one input. -/
def proofInsideWrong : ChangeSpec := { name := "proofInside", fn := fun _ => fun
  | [d1, d2, d3] => { results := [.lit (.bool false)], args := [d1, d2, d3] }
  | _ => none }
def ProofInsideWrongFalsely : Prop := proofInsideRow.holds Tryd.pinned (OpenSpec.ofChange proofInsideWrong)

/- THE SECOND FORM. 'bulk': how many values and letters a reading holds, each counted each time it is reached (what is shared counts as often as it is met; a slice's spare places count too). A statement '..UptoSaid' is the law's where the arguments, and the package variables that the reading takes, are together of bulk at most 1048576: NARROWER than '..Said'. Prove '..Said' where nothing that the law and all that it calls make is longer than what came in: it says more and counts as full. Else prove '..UptoSaid'. A law counts once. -/
mutual
def uptoBulk {H : Type} : DataW H → Nat
  | .lit (.string bytes) => bytes.length + 1
  | .lit _ => 1
  | .nil => 1
  | .ptr d => uptoBulk d + 1
  | .slice elems spare => uptoBulkAll elems + uptoBulkAll spare + 1
  | .agg parts => uptoBulkAll parts + 1
  | .iface _ d => uptoBulk d + 1
  | .map entries => uptoBulkEntries entries + 1
  | .held _ => 1
def uptoBulkAll {H : Type} : List (DataW H) → Nat
  | [] => 0
  | d :: r => uptoBulk d + uptoBulkAll r
def uptoBulkEntries {H : Type} : List (Lit × DataW H) → Nat
  | [] => 0
  | x :: r => uptoBulkEntry x + uptoBulkEntries r
def uptoBulkEntry {H : Type} : Lit × DataW H → Nat
  | (.string bytes, d) => bytes.length + uptoBulk d + 1
  | (_, d) => uptoBulk d + 1
 end
def uptoSmall : (H : Type) → List (DataW H) → Bool := fun _ ds => decide (uptoBulkAll ds ≤ 1048576)
def OpenSpec.upto (s : _root_.Go.ChangeSpec) : _root_.Go.OpenSpec := { _root_.Go.OpenSpec.ofChange s with cond := some uptoSmall }

/-- 'lodestonelaw08.StepAll', WHERE WHAT IT READS IS OF BULK AT MOST 1048576: true; the input reads as it did. -/
def stepAllUptoRow : OpenClaim := { program := "ytfjgfcnhklopdaadoor", sum := "f519bdcf141a06450372a51a09d8e9a739cf34bdeba6b5d69bd398588ef6d330", func := "lodestone/lodestonelaw08.StepAll", spec := "stepAll", unfollowed := true, recurses := true, named := ["unicode/utf8.first", "unicode/utf8.acceptRanges"], apart := false, laid := [("unicode/utf8.acceptRanges", laid_unicode_utf8_acceptRanges), ("unicode/utf8.first", laid_unicode_utf8_first)], narrowed := true }
def StepAllUptoSaid : Prop := stepAllUptoRow.holds Tryd.pinned (OpenSpec.upto stepAllSpec)

/-- 'lodestonelaw08.StepDoes', WHERE WHAT IT READS IS OF BULK AT MOST 1048576: true; the input reads as it did. -/
def stepDoesUptoRow : OpenClaim := { program := "ytfjgfcnhklopdaadoor", sum := "f519bdcf141a06450372a51a09d8e9a739cf34bdeba6b5d69bd398588ef6d330", func := "lodestone/lodestonelaw08.StepDoes", spec := "stepDoes", unfollowed := true, recurses := true, named := ["unicode/utf8.first", "unicode/utf8.acceptRanges"], apart := false, laid := [("unicode/utf8.acceptRanges", laid_unicode_utf8_acceptRanges), ("unicode/utf8.first", laid_unicode_utf8_first)], narrowed := true }
def StepDoesUptoSaid : Prop := stepDoesUptoRow.holds Tryd.pinned (OpenSpec.upto stepDoesSpec)

/-- 'lodestonelaw09.WalkParts', WHERE WHAT IT READS IS OF BULK AT MOST 1048576: true; the input reads as it did. -/
def walkPartsUptoRow : OpenClaim := { program := "ytfjgfcnhklopdaadoor", sum := "f519bdcf141a06450372a51a09d8e9a739cf34bdeba6b5d69bd398588ef6d330", func := "lodestone/lodestonelaw09.WalkParts", spec := "walkParts", unfollowed := true, recurses := true, named := ["unicode/utf8.first", "unicode/utf8.acceptRanges"], apart := false, laid := [("unicode/utf8.acceptRanges", laid_unicode_utf8_acceptRanges), ("unicode/utf8.first", laid_unicode_utf8_first)], narrowed := true }
def WalkPartsUptoSaid : Prop := walkPartsUptoRow.holds Tryd.pinned (OpenSpec.upto walkPartsSpec)

/-- 'lodestonelaw09.WalkNamed', WHERE WHAT IT READS IS OF BULK AT MOST 1048576: true; the input reads as it did. -/
def walkNamedUptoRow : OpenClaim := { program := "ytfjgfcnhklopdaadoor", sum := "f519bdcf141a06450372a51a09d8e9a739cf34bdeba6b5d69bd398588ef6d330", func := "lodestone/lodestonelaw09.WalkNamed", spec := "walkNamed", unfollowed := true, recurses := true, named := ["unicode/utf8.first", "unicode/utf8.acceptRanges"], apart := false, laid := [("unicode/utf8.acceptRanges", laid_unicode_utf8_acceptRanges), ("unicode/utf8.first", laid_unicode_utf8_first)], narrowed := true }
def WalkNamedUptoSaid : Prop := walkNamedUptoRow.holds Tryd.pinned (OpenSpec.upto walkNamedSpec)

/-- 'lodestonelaw08.StepBinds', WHERE WHAT IT READS IS OF BULK AT MOST 1048576: true; the input reads as it did. -/
def stepBindsUptoRow : OpenClaim := { program := "ytfjgfcnhklopdaadoor", sum := "f519bdcf141a06450372a51a09d8e9a739cf34bdeba6b5d69bd398588ef6d330", func := "lodestone/lodestonelaw08.StepBinds", spec := "stepBinds", unfollowed := true, recurses := true, named := ["unicode/utf8.first", "unicode/utf8.acceptRanges"], apart := false, laid := [("unicode/utf8.acceptRanges", laid_unicode_utf8_acceptRanges), ("unicode/utf8.first", laid_unicode_utf8_first)], narrowed := true }
def StepBindsUptoSaid : Prop := stepBindsUptoRow.holds Tryd.pinned (OpenSpec.upto stepBindsSpec)

/-- 'lodestonelaw08.StepParts', WHERE WHAT IT READS IS OF BULK AT MOST 1048576: true; the input reads as it did. -/
def stepPartsUptoRow : OpenClaim := { program := "ytfjgfcnhklopdaadoor", sum := "f519bdcf141a06450372a51a09d8e9a739cf34bdeba6b5d69bd398588ef6d330", func := "lodestone/lodestonelaw08.StepParts", spec := "stepParts", unfollowed := true, recurses := true, named := ["unicode/utf8.first", "unicode/utf8.acceptRanges"], apart := false, laid := [("unicode/utf8.acceptRanges", laid_unicode_utf8_acceptRanges), ("unicode/utf8.first", laid_unicode_utf8_first)], narrowed := true }
def StepPartsUptoSaid : Prop := stepPartsUptoRow.holds Tryd.pinned (OpenSpec.upto stepPartsSpec)

/-- 'lodestonelaw19.ProofChecks', WHERE WHAT IT READS IS OF BULK AT MOST 1048576: true; the input reads as it did. -/
def proofChecksUptoRow : OpenClaim := { program := "ytfjgfcnhklopdaadoor", sum := "f519bdcf141a06450372a51a09d8e9a739cf34bdeba6b5d69bd398588ef6d330", func := "lodestone/lodestonelaw19.ProofChecks", spec := "proofChecks", unfollowed := true, recurses := true, named := ["unicode/utf8.first", "unicode/utf8.acceptRanges"], apart := false, laid := [("unicode/utf8.acceptRanges", laid_unicode_utf8_acceptRanges), ("unicode/utf8.first", laid_unicode_utf8_first)], narrowed := true }
def ProofChecksUptoSaid : Prop := proofChecksUptoRow.holds Tryd.pinned (OpenSpec.upto proofChecksSpec)

/-- 'lodestonelaw19.ProofTurns', WHERE WHAT IT READS IS OF BULK AT MOST 1048576: true; the input reads as it did. -/
def proofTurnsUptoRow : OpenClaim := { program := "ytfjgfcnhklopdaadoor", sum := "f519bdcf141a06450372a51a09d8e9a739cf34bdeba6b5d69bd398588ef6d330", func := "lodestone/lodestonelaw19.ProofTurns", spec := "proofTurns", unfollowed := true, recurses := true, named := ["unicode/utf8.first", "unicode/utf8.acceptRanges"], apart := false, laid := [("unicode/utf8.acceptRanges", laid_unicode_utf8_acceptRanges), ("unicode/utf8.first", laid_unicode_utf8_first)], narrowed := true }
def ProofTurnsUptoSaid : Prop := proofTurnsUptoRow.holds Tryd.pinned (OpenSpec.upto proofTurnsSpec)

/-- 'lodestonelaw19.ProofBegins', WHERE WHAT IT READS IS OF BULK AT MOST 1048576: true; the input reads as it did. -/
def proofBeginsUptoRow : OpenClaim := { program := "ytfjgfcnhklopdaadoor", sum := "f519bdcf141a06450372a51a09d8e9a739cf34bdeba6b5d69bd398588ef6d330", func := "lodestone/lodestonelaw19.ProofBegins", spec := "proofBegins", unfollowed := true, recurses := true, named := ["unicode/utf8.first", "unicode/utf8.acceptRanges"], apart := false, laid := [("unicode/utf8.acceptRanges", laid_unicode_utf8_acceptRanges), ("unicode/utf8.first", laid_unicode_utf8_first)], narrowed := true }
def ProofBeginsUptoSaid : Prop := proofBeginsUptoRow.holds Tryd.pinned (OpenSpec.upto proofBeginsSpec)

/-- 'lodestonelaw19.ProofInside', WHERE WHAT IT READS IS OF BULK AT MOST 1048576: true; the input reads as it did. -/
def proofInsideUptoRow : OpenClaim := { program := "ytfjgfcnhklopdaadoor", sum := "f519bdcf141a06450372a51a09d8e9a739cf34bdeba6b5d69bd398588ef6d330", func := "lodestone/lodestonelaw19.ProofInside", spec := "proofInside", unfollowed := true, recurses := true, named := ["unicode/utf8.first", "unicode/utf8.acceptRanges"], apart := false, laid := [("unicode/utf8.acceptRanges", laid_unicode_utf8_acceptRanges), ("unicode/utf8.first", laid_unicode_utf8_first)], narrowed := true }
def ProofInsideUptoSaid : Prop := proofInsideUptoRow.holds Tryd.pinned (OpenSpec.upto proofInsideSpec)

end Rows
end Go.Proofs.YtfjgfcnhklopdaaDoor

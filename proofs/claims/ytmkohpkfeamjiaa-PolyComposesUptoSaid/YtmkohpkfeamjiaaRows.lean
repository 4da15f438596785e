/-
  No cell of these rows narrows 'for every input' (looked for: loops, veiled, ifaces, maps, wideKeys, modest, calm, conditions, laid).
  DERIVED. THE GIVEN ROWS OF THIS SEAT. 9 by the template 'for every input the law returns true; each argument reads behind the call as it read before'; 0 by the template 'total and deterministic' (their statements: YtmkohpkfeamjiaaTotals.lean).
  GIVEN WITH THE SEED: the statements are not yours to turn. If you find one false, say at which input.
  Laid BY PROGRAM, IN A SANDBOX (cutbox-rows.mjs): the forced cells as the released guide's own fill.sh prints them over the translation f175040fcd2adec5… (all of the seat's roots in one cut). By AI agents, Wed Nov 11 2026. No macro, syntax, notation, axiom, sorry.
-/
import Derived.Test.YtmkohpkfeamjiaaChecked
import GoSem.Claim
import GoSem.ClaimJoined
import GoSem.ClaimMapViews
import Derived.JoinedTies
import Derived.KernelRfl
namespace Go.Proofs.Ytmkohpkfeamjiaa
/- THE CELL 'sum', in the pinned program and in every row, IS THE sha256 OF THE DUMP (.gsa) THAT YtmkohpkfeamjiaaProg.lean LOADS. Nothing in Lean hashes anything: it is a label: what it is worth is what the hold of that sum in a sandbox is worth. -/
noncomputable def Try.pinned : Pinned := { name := "ytmkohpkfeamjiaa", sum := "f175040fcd2adec5ed6eda821bf4ed067c431c827298a3bd2e477ed5af0c51da", checked := Try.checked }
namespace Rows
def none {H : Type} : Left H := { results := [], args := [] }

/-- 'lodestonelaw02.PolyChecks': WHATEVER THE INPUT: true; the input reads as it did. -/
def polyChecksSpec : ChangeSpec := { name := "polyChecks", fn := fun _ => fun
  | [d1, d2] => { results := [.lit (.bool true)], args := [d1, d2] }
  | _ => none }
def polyChecksRow : OpenClaim := { program := "ytmkohpkfeamjiaa", sum := "f175040fcd2adec5ed6eda821bf4ed067c431c827298a3bd2e477ed5af0c51da", func := "lodestone/lodestonelaw02.PolyChecks", spec := "polyChecks", unfollowed := true, recurses := true, apart := false }
def PolyChecksSaid : Prop := polyChecksRow.holds Try.pinned (OpenSpec.ofChange polyChecksSpec)

/-- ITS FALSE NEIGHBOUR: 'it returns false'. Refute it at one input. -/
def polyChecksWrong : ChangeSpec := { name := "polyChecks", fn := fun _ => fun
  | [d1, d2] => { results := [.lit (.bool false)], args := [d1, d2] }
  | _ => none }
def PolyChecksWrongFalsely : Prop := polyChecksRow.holds Try.pinned (OpenSpec.ofChange polyChecksWrong)

/-- 'lodestonelaw02.PolySums': WHATEVER THE INPUT: true; the input reads as it did. -/
def polySumsSpec : ChangeSpec := { name := "polySums", fn := fun _ => fun
  | [d1, d2] => { results := [.lit (.bool true)], args := [d1, d2] }
  | _ => none }
def polySumsRow : OpenClaim := { program := "ytmkohpkfeamjiaa", sum := "f175040fcd2adec5ed6eda821bf4ed067c431c827298a3bd2e477ed5af0c51da", func := "lodestone/lodestonelaw02.PolySums", spec := "polySums", unfollowed := true, recurses := true, apart := false }
def PolySumsSaid : Prop := polySumsRow.holds Try.pinned (OpenSpec.ofChange polySumsSpec)

/-- ITS FALSE NEIGHBOUR: 'it returns false'. Refute it at one input. -/
def polySumsWrong : ChangeSpec := { name := "polySums", fn := fun _ => fun
  | [d1, d2] => { results := [.lit (.bool false)], args := [d1, d2] }
  | _ => none }
def PolySumsWrongFalsely : Prop := polySumsRow.holds Try.pinned (OpenSpec.ofChange polySumsWrong)

/-- 'lodestonelaw02.PolyProducts': WHATEVER THE INPUT: true; the input reads as it did. -/
def polyProductsSpec : ChangeSpec := { name := "polyProducts", fn := fun _ => fun
  | [d1, d2] => { results := [.lit (.bool true)], args := [d1, d2] }
  | _ => none }
def polyProductsRow : OpenClaim := { program := "ytmkohpkfeamjiaa", sum := "f175040fcd2adec5ed6eda821bf4ed067c431c827298a3bd2e477ed5af0c51da", func := "lodestone/lodestonelaw02.PolyProducts", spec := "polyProducts", unfollowed := true, recurses := true, apart := false }
def PolyProductsSaid : Prop := polyProductsRow.holds Try.pinned (OpenSpec.ofChange polyProductsSpec)

/-- ITS FALSE NEIGHBOUR: 'it returns false'. Refute it at one input. -/
def polyProductsWrong : ChangeSpec := { name := "polyProducts", fn := fun _ => fun
  | [d1, d2] => { results := [.lit (.bool false)], args := [d1, d2] }
  | _ => none }
def PolyProductsWrongFalsely : Prop := polyProductsRow.holds Try.pinned (OpenSpec.ofChange polyProductsWrong)

/-- 'lodestonelaw02.PolyComposes': WHATEVER THE INPUT: true; the input reads as it did. -/
def polyComposesSpec : ChangeSpec := { name := "polyComposes", fn := fun _ => fun
  | [d1, d2] => { results := [.lit (.bool true)], args := [d1, d2] }
  | _ => none }
def polyComposesRow : OpenClaim := { program := "ytmkohpkfeamjiaa", sum := "f175040fcd2adec5ed6eda821bf4ed067c431c827298a3bd2e477ed5af0c51da", func := "lodestone/lodestonelaw02.PolyComposes", spec := "polyComposes", unfollowed := true, recurses := true, apart := false }
def PolyComposesSaid : Prop := polyComposesRow.holds Try.pinned (OpenSpec.ofChange polyComposesSpec)

/-- ITS FALSE NEIGHBOUR: 'it returns false'. Refute it at one input. -/
def polyComposesWrong : ChangeSpec := { name := "polyComposes", fn := fun _ => fun
  | [d1, d2] => { results := [.lit (.bool false)], args := [d1, d2] }
  | _ => none }
def PolyComposesWrongFalsely : Prop := polyComposesRow.holds Try.pinned (OpenSpec.ofChange polyComposesWrong)

/-- 'lodestonelaw02.PolyValues': WHATEVER THE INPUT: true; the input reads as it did. -/
def polyValuesSpec : ChangeSpec := { name := "polyValues", fn := fun _ => fun
  | [d1, d2] => { results := [.lit (.bool true)], args := [d1, d2] }
  | _ => none }
def polyValuesRow : OpenClaim := { program := "ytmkohpkfeamjiaa", sum := "f175040fcd2adec5ed6eda821bf4ed067c431c827298a3bd2e477ed5af0c51da", func := "lodestone/lodestonelaw02.PolyValues", spec := "polyValues", unfollowed := true, recurses := true, apart := false }
def PolyValuesSaid : Prop := polyValuesRow.holds Try.pinned (OpenSpec.ofChange polyValuesSpec)

/-- ITS FALSE NEIGHBOUR: 'it returns false'. Refute it at one input. -/
def polyValuesWrong : ChangeSpec := { name := "polyValues", fn := fun _ => fun
  | [d1, d2] => { results := [.lit (.bool false)], args := [d1, d2] }
  | _ => none }
def PolyValuesWrongFalsely : Prop := polyValuesRow.holds Try.pinned (OpenSpec.ofChange polyValuesWrong)

/-- 'lodestonelaw02.PolyRing': WHATEVER THE INPUT: true; the input reads as it did. -/
def polyRingSpec : ChangeSpec := { name := "polyRing", fn := fun _ => fun
  | [d1, d2, d3] => { results := [.lit (.bool true)], args := [d1, d2, d3] }
  | _ => none }
def polyRingRow : OpenClaim := { program := "ytmkohpkfeamjiaa", sum := "f175040fcd2adec5ed6eda821bf4ed067c431c827298a3bd2e477ed5af0c51da", func := "lodestone/lodestonelaw02.PolyRing", spec := "polyRing", unfollowed := true, recurses := true, apart := false }
def PolyRingSaid : Prop := polyRingRow.holds Try.pinned (OpenSpec.ofChange polyRingSpec)

/-- ITS FALSE NEIGHBOUR: 'it returns false'. Refute it at one input. -/
def polyRingWrong : ChangeSpec := { name := "polyRing", fn := fun _ => fun
  | [d1, d2, d3] => { results := [.lit (.bool false)], args := [d1, d2, d3] }
  | _ => none }
def PolyRingWrongFalsely : Prop := polyRingRow.holds Try.pinned (OpenSpec.ofChange polyRingWrong)

/-- 'lodestonelaw02.PolyWorth': WHATEVER THE INPUT: true; the input reads as it did. -/
def polyWorthSpec : ChangeSpec := { name := "polyWorth", fn := fun _ => fun
  | [d1, d2, d3] => { results := [.lit (.bool true)], args := [d1, d2, d3] }
  | _ => none }
def polyWorthRow : OpenClaim := { program := "ytmkohpkfeamjiaa", sum := "f175040fcd2adec5ed6eda821bf4ed067c431c827298a3bd2e477ed5af0c51da", func := "lodestone/lodestonelaw02.PolyWorth", spec := "polyWorth", unfollowed := true, recurses := true, apart := false }
def PolyWorthSaid : Prop := polyWorthRow.holds Try.pinned (OpenSpec.ofChange polyWorthSpec)

/-- ITS FALSE NEIGHBOUR: 'it returns false'. Refute it at one input. -/
def polyWorthWrong : ChangeSpec := { name := "polyWorth", fn := fun _ => fun
  | [d1, d2, d3] => { results := [.lit (.bool false)], args := [d1, d2, d3] }
  | _ => none }
def PolyWorthWrongFalsely : Prop := polyWorthRow.holds Try.pinned (OpenSpec.ofChange polyWorthWrong)

/-- 'lodestonelaw02.PolyInside': WHATEVER THE INPUT: true; the input reads as it did. -/
def polyInsideSpec : ChangeSpec := { name := "polyInside", fn := fun _ => fun
  | [d1, d2, d3] => { results := [.lit (.bool true)], args := [d1, d2, d3] }
  | _ => none }
def polyInsideRow : OpenClaim := { program := "ytmkohpkfeamjiaa", sum := "f175040fcd2adec5ed6eda821bf4ed067c431c827298a3bd2e477ed5af0c51da", func := "lodestone/lodestonelaw02.PolyInside", spec := "polyInside", unfollowed := true, recurses := true, apart := false }
def PolyInsideSaid : Prop := polyInsideRow.holds Try.pinned (OpenSpec.ofChange polyInsideSpec)

/-- ITS FALSE NEIGHBOUR: 'it returns false'. Refute it at one input. -/
def polyInsideWrong : ChangeSpec := { name := "polyInside", fn := fun _ => fun
  | [d1, d2, d3] => { results := [.lit (.bool false)], args := [d1, d2, d3] }
  | _ => none }
def PolyInsideWrongFalsely : Prop := polyInsideRow.holds Try.pinned (OpenSpec.ofChange polyInsideWrong)

/-- 'lodestonelaw02.PolyGreater': WHATEVER THE INPUT: true; the input reads as it did. -/
def polyGreaterSpec : ChangeSpec := { name := "polyGreater", fn := fun _ => fun
  | [d1, d2, d3] => { results := [.lit (.bool true)], args := [d1, d2, d3] }
  | _ => none }
def polyGreaterRow : OpenClaim := { program := "ytmkohpkfeamjiaa", sum := "f175040fcd2adec5ed6eda821bf4ed067c431c827298a3bd2e477ed5af0c51da", func := "lodestone/lodestonelaw02.PolyGreater", spec := "polyGreater", unfollowed := true, recurses := true, apart := false }
def PolyGreaterSaid : Prop := polyGreaterRow.holds Try.pinned (OpenSpec.ofChange polyGreaterSpec)

/-- ITS FALSE NEIGHBOUR: 'it returns false'. Refute it at one input. -/
def polyGreaterWrong : ChangeSpec := { name := "polyGreater", fn := fun _ => fun
  | [d1, d2, d3] => { results := [.lit (.bool false)], args := [d1, d2, d3] }
  | _ => none }
def PolyGreaterWrongFalsely : Prop := polyGreaterRow.holds Try.pinned (OpenSpec.ofChange polyGreaterWrong)

/- THE SECOND FORM. 'bulk': how many values and letters a reading holds, each counted each time it is reached (what is shared counts as often as it is met; a slice's spare places count too). A statement '..UptoSaid' is the law's where the arguments, and the package variables that the reading takes, are together of bulk at most 1048576: NARROWER than '..Said'. Prove '..Said' where nothing that the law and all that it calls make is longer than what came in: it says more and counts as full. Else prove '..UptoSaid'. A law counts once. -/
mutual
def uptoBulk {H : Type} : DataW H → Nat
  | .lit (.string bytes) => bytes.length + 1
  | .lit _ => 1
  | .nil => 1
  | .ptr d => uptoBulk d + 1
  | .slice elems spare => uptoBulkAll elems + uptoBulkAll spare + 1
  | .agg parts => uptoBulkAll parts + 1
  | .iface _ d => uptoBulk d + 1
  | .map entries => uptoBulkEntries entries + 1
  | .held _ => 1
def uptoBulkAll {H : Type} : List (DataW H) → Nat
  | [] => 0
  | d :: r => uptoBulk d + uptoBulkAll r
def uptoBulkEntries {H : Type} : List (Lit × DataW H) → Nat
  | [] => 0
  | x :: r => uptoBulkEntry x + uptoBulkEntries r
def uptoBulkEntry {H : Type} : Lit × DataW H → Nat
  | (.string bytes, d) => bytes.length + uptoBulk d + 1
  | (_, d) => uptoBulk d + 1
 end
def uptoSmall : (H : Type) → List (DataW H) → Bool := fun _ ds => decide (uptoBulkAll ds ≤ 1048576)
def OpenSpec.upto (s : _root_.Go.ChangeSpec) : _root_.Go.OpenSpec := { _root_.Go.OpenSpec.ofChange s with cond := some uptoSmall }

/-- 'lodestonelaw02.PolyChecks', WHERE WHAT IT READS IS OF BULK AT MOST 1048576: true; the input reads as it did. -/
def polyChecksUptoRow : OpenClaim := { program := "ytmkohpkfeamjiaa", sum := "f175040fcd2adec5ed6eda821bf4ed067c431c827298a3bd2e477ed5af0c51da", func := "lodestone/lodestonelaw02.PolyChecks", spec := "polyChecks", unfollowed := true, recurses := true, apart := false, narrowed := true }
def PolyChecksUptoSaid : Prop := polyChecksUptoRow.holds Try.pinned (OpenSpec.upto polyChecksSpec)

/-- 'lodestonelaw02.PolySums', WHERE WHAT IT READS IS OF BULK AT MOST 1048576: true; the input reads as it did. -/
def polySumsUptoRow : OpenClaim := { program := "ytmkohpkfeamjiaa", sum := "f175040fcd2adec5ed6eda821bf4ed067c431c827298a3bd2e477ed5af0c51da", func := "lodestone/lodestonelaw02.PolySums", spec := "polySums", unfollowed := true, recurses := true, apart := false, narrowed := true }
def PolySumsUptoSaid : Prop := polySumsUptoRow.holds Try.pinned (OpenSpec.upto polySumsSpec)

/-- 'lodestonelaw02.PolyProducts', WHERE WHAT IT READS IS OF BULK AT MOST 1048576: true; the input reads as it did. -/
def polyProductsUptoRow : OpenClaim := { program := "ytmkohpkfeamjiaa", sum := "f175040fcd2adec5ed6eda821bf4ed067c431c827298a3bd2e477ed5af0c51da", func := "lodestone/lodestonelaw02.PolyProducts", spec := "polyProducts", unfollowed := true, recurses := true, apart := false, narrowed := true }
def PolyProductsUptoSaid : Prop := polyProductsUptoRow.holds Try.pinned (OpenSpec.upto polyProductsSpec)

/-- 'lodestonelaw02.PolyComposes', WHERE WHAT IT READS IS OF BULK AT MOST 1048576: true; the input reads as it did. -/
def polyComposesUptoRow : OpenClaim := { program := "ytmkohpkfeamjiaa", sum := "f175040fcd2adec5ed6eda821bf4ed067c431c827298a3bd2e477ed5af0c51da", func := "lodestone/lodestonelaw02.PolyComposes", spec := "polyComposes", unfollowed := true, recurses := true, apart := false, narrowed := true }
def PolyComposesUptoSaid : Prop := polyComposesUptoRow.holds Try.pinned (OpenSpec.upto polyComposesSpec)

/-- 'lodestonelaw02.PolyValues', WHERE WHAT IT READS IS OF BULK AT MOST 1048576: true; the input reads as it did. -/
def polyValuesUptoRow : OpenClaim := { program := "ytmkohpkfeamjiaa", sum := "f175040fcd2adec5ed6eda821bf4ed067c431c827298a3bd2e477ed5af0c51da", func := "lodestone/lodestonelaw02.PolyValues", spec := "polyValues", unfollowed := true, recurses := true, apart := false, narrowed := true }
def PolyValuesUptoSaid : Prop := polyValuesUptoRow.holds Try.pinned (OpenSpec.upto polyValuesSpec)

/-- 'lodestonelaw02.PolyRing', WHERE WHAT IT READS IS OF BULK AT MOST 1048576: true; the input reads as it did. -/
def polyRingUptoRow : OpenClaim := { program := "ytmkohpkfeamjiaa", sum := "f175040fcd2adec5ed6eda821bf4ed067c431c827298a3bd2e477ed5af0c51da", func := "lodestone/lodestonelaw02.PolyRing", spec := "polyRing", unfollowed := true, recurses := true, apart := false, narrowed := true }
def PolyRingUptoSaid : Prop := polyRingUptoRow.holds Try.pinned (OpenSpec.upto polyRingSpec)

/-- 'lodestonelaw02.PolyWorth', WHERE WHAT IT READS IS OF BULK AT MOST 1048576: true; the input reads as it did. -/
def polyWorthUptoRow : OpenClaim := { program := "ytmkohpkfeamjiaa", sum := "f175040fcd2adec5ed6eda821bf4ed067c431c827298a3bd2e477ed5af0c51da", func := "lodestone/lodestonelaw02.PolyWorth", spec := "polyWorth", unfollowed := true, recurses := true, apart := false, narrowed := true }
def PolyWorthUptoSaid : Prop := polyWorthUptoRow.holds Try.pinned (OpenSpec.upto polyWorthSpec)

/-- 'lodestonelaw02.PolyInside', WHERE WHAT IT READS IS OF BULK AT MOST 1048576: true; the input reads as it did. -/
def polyInsideUptoRow : OpenClaim := { program := "ytmkohpkfeamjiaa", sum := "f175040fcd2adec5ed6eda821bf4ed067c431c827298a3bd2e477ed5af0c51da", func := "lodestone/lodestonelaw02.PolyInside", spec := "polyInside", unfollowed := true, recurses := true, apart := false, narrowed := true }
def PolyInsideUptoSaid : Prop := polyInsideUptoRow.holds Try.pinned (OpenSpec.upto polyInsideSpec)

/-- 'lodestonelaw02.PolyGreater', WHERE WHAT IT READS IS OF BULK AT MOST 1048576: true; the input reads as it did. -/
def polyGreaterUptoRow : OpenClaim := { program := "ytmkohpkfeamjiaa", sum := "f175040fcd2adec5ed6eda821bf4ed067c431c827298a3bd2e477ed5af0c51da", func := "lodestone/lodestonelaw02.PolyGreater", spec := "polyGreater", unfollowed := true, recurses := true, apart := false, narrowed := true }
def PolyGreaterUptoSaid : Prop := polyGreaterUptoRow.holds Try.pinned (OpenSpec.upto polyGreaterSpec)

end Rows
end Go.Proofs.Ytmkohpkfeamjiaa

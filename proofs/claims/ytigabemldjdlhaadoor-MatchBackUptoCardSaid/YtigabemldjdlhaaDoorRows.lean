/-
  NARROWER THAN 'FOR EVERY INPUT', by the rows' own cells (each row's printed sentence says how): MatchFinds: laid · MatchVariants: laid · MatchKinds: laid · MatchInside: laid · UnifyFinds: laid · UnifyCan: laid · UnifyTurned: laid · MatchBack: laid · UnifyGeneral: laid · UnifyOne: laid · UnifyInside: laid.
  DERIVED. THE GIVEN ROWS OF THIS SEAT. 11 by the template 'for every input the law returns true; each argument reads behind the call as it read before'; 0 by the template 'total and deterministic' (their statements: YtigabemldjdlhaaDoorTotals.lean).
  GIVEN WITH THE SEED: the statements are not yours to turn. If you find one false, say at which input.
  Laid BY PROGRAM, IN A SANDBOX (cutbox-rows.mjs): the forced cells as the released guide's own fill.sh prints them over the translation 10b68d0070dd1653… (all of the seat's roots in one cut). By AI agents, Wed Nov 11 2026. No macro, syntax, notation, axiom, sorry.
-/
import Derived.Test.YtigabemldjdlhaaDoorChecked
import GoSem.PinnedTables
import GoSem.Claim
import GoSem.ClaimJoined
import GoSem.ClaimMapViews
import Derived.JoinedTies
import Derived.KernelRfl
namespace Go.Proofs.YtigabemldjdlhaaDoor
/- THE CELL 'sum', in the pinned program and in every row, IS THE sha256 OF THE DUMP (.gsa) THAT YtigabemldjdlhaaDoorProg.lean LOADS. Nothing in Lean hashes anything: it is a label: what it is worth is what the hold of that sum in a sandbox is worth. -/
noncomputable def Tryd.pinned : Pinned := { name := "ytigabemldjdlhaadoor", sum := "10b68d0070dd16536ff945d3f27933d55f10f050386321a648c446c4afe0830e", checked := Tryd.checked }
namespace Rows
def none {H : Type} : Left H := { results := [], args := [] }

/- WHAT THE LISTED PACKAGE-LEVEL VARIABLES READ AS WHEN THE CALL BEGINS. Each datum BY PROGRAM (the guide's laid-datum.mjs) off the statement by which the dump's own 'gosem.cut.vars' lays the variable. In a bare row this is a premise. The card (YtigabemldjdlhaaDoorCards.lean) ties it to the program's text. -/
def laid_unicode_utf8_acceptRanges {H : Type} : DataW H := .agg [.agg [.lit (.int .u8 128), .lit (.int .u8 191)], .agg [.lit (.int .u8 160), .lit (.int .u8 191)], .agg [.lit (.int .u8 128), .lit (.int .u8 159)], .agg [.lit (.int .u8 144), .lit (.int .u8 191)], .agg [.lit (.int .u8 128), .lit (.int .u8 143)], .agg [.lit (.int .u8 0), .lit (.int .u8 0)], .agg [.lit (.int .u8 0), .lit (.int .u8 0)], .agg [.lit (.int .u8 0), .lit (.int .u8 0)], .agg [.lit (.int .u8 0), .lit (.int .u8 0)], .agg [.lit (.int .u8 0), .lit (.int .u8 0)], .agg [.lit (.int .u8 0), .lit (.int .u8 0)], .agg [.lit (.int .u8 0), .lit (.int .u8 0)], .agg [.lit (.int .u8 0), .lit (.int .u8 0)], .agg [.lit (.int .u8 0), .lit (.int .u8 0)], .agg [.lit (.int .u8 0), .lit (.int .u8 0)], .agg [.lit (.int .u8 0), .lit (.int .u8 0)]]
/-- One of Go's own tables, pinned by name: the form's constant. -/
def laid_unicode_utf8_first : DataW Unit := Go.Pinned.utf8First

/-- 'lodestonelaw05.MatchFinds': WHATEVER THE INPUT: true; the input reads as it did. -/
def matchFindsSpec : ChangeSpec := { name := "matchFinds", fn := fun _ => fun
  | [d1, d2, d3] => { results := [.lit (.bool true)], args := [d1, d2, d3] }
  | _ => none }
def matchFindsRow : OpenClaim := { program := "ytigabemldjdlhaadoor", sum := "10b68d0070dd16536ff945d3f27933d55f10f050386321a648c446c4afe0830e", func := "lodestone/lodestonelaw05.MatchFinds", spec := "matchFinds", unfollowed := true, recurses := true, named := ["unicode/utf8.first", "unicode/utf8.acceptRanges"], apart := false, laid := [("unicode/utf8.acceptRanges", laid_unicode_utf8_acceptRanges), ("unicode/utf8.first", laid_unicode_utf8_first)] }
def MatchFindsSaid : Prop := matchFindsRow.holds Tryd.pinned (OpenSpec.ofChange matchFindsSpec)

/-- ITS FALSE NEIGHBOUR: 'it returns false'. Refute it at one input. -/
def matchFindsWrong : ChangeSpec := { name := "matchFinds", fn := fun _ => fun
  | [d1, d2, d3] => { results := [.lit (.bool false)], args := [d1, d2, d3] }
  | _ => none }
def MatchFindsWrongFalsely : Prop := matchFindsRow.holds Tryd.pinned (OpenSpec.ofChange matchFindsWrong)

/-- 'lodestonelaw05.MatchVariants': WHATEVER THE INPUT: true; the input reads as it did. -/
def matchVariantsSpec : ChangeSpec := { name := "matchVariants", fn := fun _ => fun
  | [d1, d2, d3] => { results := [.lit (.bool true)], args := [d1, d2, d3] }
  | _ => none }
def matchVariantsRow : OpenClaim := { program := "ytigabemldjdlhaadoor", sum := "10b68d0070dd16536ff945d3f27933d55f10f050386321a648c446c4afe0830e", func := "lodestone/lodestonelaw05.MatchVariants", spec := "matchVariants", unfollowed := true, recurses := true, named := ["unicode/utf8.first", "unicode/utf8.acceptRanges"], apart := false, laid := [("unicode/utf8.acceptRanges", laid_unicode_utf8_acceptRanges), ("unicode/utf8.first", laid_unicode_utf8_first)] }
def MatchVariantsSaid : Prop := matchVariantsRow.holds Tryd.pinned (OpenSpec.ofChange matchVariantsSpec)

/-- ITS FALSE NEIGHBOUR: 'it returns false'. Refute it at one input. -/
def matchVariantsWrong : ChangeSpec := { name := "matchVariants", fn := fun _ => fun
  | [d1, d2, d3] => { results := [.lit (.bool false)], args := [d1, d2, d3] }
  | _ => none }
def MatchVariantsWrongFalsely : Prop := matchVariantsRow.holds Tryd.pinned (OpenSpec.ofChange matchVariantsWrong)

/-- 'lodestonelaw05.MatchKinds': WHATEVER THE INPUT: true; the input reads as it did. -/
def matchKindsSpec : ChangeSpec := { name := "matchKinds", fn := fun _ => fun
  | [d1, d2, d3] => { results := [.lit (.bool true)], args := [d1, d2, d3] }
  | _ => none }
def matchKindsRow : OpenClaim := { program := "ytigabemldjdlhaadoor", sum := "10b68d0070dd16536ff945d3f27933d55f10f050386321a648c446c4afe0830e", func := "lodestone/lodestonelaw05.MatchKinds", spec := "matchKinds", unfollowed := true, recurses := true, named := ["unicode/utf8.first", "unicode/utf8.acceptRanges"], apart := false, laid := [("unicode/utf8.acceptRanges", laid_unicode_utf8_acceptRanges), ("unicode/utf8.first", laid_unicode_utf8_first)] }
def MatchKindsSaid : Prop := matchKindsRow.holds Tryd.pinned (OpenSpec.ofChange matchKindsSpec)

/-- ITS FALSE NEIGHBOUR: 'it returns false'. Refute it at one input. -/
def matchKindsWrong : ChangeSpec := { name := "matchKinds", fn := fun _ => fun
  | [d1, d2, d3] => { results := [.lit (.bool false)], args := [d1, d2, d3] }
  | _ => none }
def MatchKindsWrongFalsely : Prop := matchKindsRow.holds Tryd.pinned (OpenSpec.ofChange matchKindsWrong)

/-- 'lodestonelaw05.MatchInside': WHATEVER THE INPUT: true; the input reads as it did. -/
def matchInsideSpec : ChangeSpec := { name := "matchInside", fn := fun _ => fun
  | [d1, d2, d3] => { results := [.lit (.bool true)], args := [d1, d2, d3] }
  | _ => none }
def matchInsideRow : OpenClaim := { program := "ytigabemldjdlhaadoor", sum := "10b68d0070dd16536ff945d3f27933d55f10f050386321a648c446c4afe0830e", func := "lodestone/lodestonelaw05.MatchInside", spec := "matchInside", unfollowed := true, recurses := true, named := ["unicode/utf8.first", "unicode/utf8.acceptRanges"], apart := false, laid := [("unicode/utf8.acceptRanges", laid_unicode_utf8_acceptRanges), ("unicode/utf8.first", laid_unicode_utf8_first)] }
def MatchInsideSaid : Prop := matchInsideRow.holds Tryd.pinned (OpenSpec.ofChange matchInsideSpec)

/-- ITS FALSE NEIGHBOUR: 'it returns false'. Refute it at one input. -/
def matchInsideWrong : ChangeSpec := { name := "matchInside", fn := fun _ => fun
  | [d1, d2, d3] => { results := [.lit (.bool false)], args := [d1, d2, d3] }
  | _ => none }
def MatchInsideWrongFalsely : Prop := matchInsideRow.holds Tryd.pinned (OpenSpec.ofChange matchInsideWrong)

/-- 'lodestonelaw06.UnifyFinds': WHATEVER THE INPUT: true; the input reads as it did. -/
def unifyFindsSpec : ChangeSpec := { name := "unifyFinds", fn := fun _ => fun
  | [d1, d2, d3] => { results := [.lit (.bool true)], args := [d1, d2, d3] }
  | _ => none }
def unifyFindsRow : OpenClaim := { program := "ytigabemldjdlhaadoor", sum := "10b68d0070dd16536ff945d3f27933d55f10f050386321a648c446c4afe0830e", func := "lodestone/lodestonelaw06.UnifyFinds", spec := "unifyFinds", unfollowed := true, recurses := true, named := ["unicode/utf8.first", "unicode/utf8.acceptRanges"], apart := false, laid := [("unicode/utf8.acceptRanges", laid_unicode_utf8_acceptRanges), ("unicode/utf8.first", laid_unicode_utf8_first)] }
def UnifyFindsSaid : Prop := unifyFindsRow.holds Tryd.pinned (OpenSpec.ofChange unifyFindsSpec)

/-- ITS FALSE NEIGHBOUR: 'it returns false'. Refute it at one input. -/
def unifyFindsWrong : ChangeSpec := { name := "unifyFinds", fn := fun _ => fun
  | [d1, d2, d3] => { results := [.lit (.bool false)], args := [d1, d2, d3] }
  | _ => none }
def UnifyFindsWrongFalsely : Prop := unifyFindsRow.holds Tryd.pinned (OpenSpec.ofChange unifyFindsWrong)

/-- 'lodestonelaw06.UnifyCan': WHATEVER THE INPUT: true; the input reads as it did. -/
def unifyCanSpec : ChangeSpec := { name := "unifyCan", fn := fun _ => fun
  | [d1, d2, d3] => { results := [.lit (.bool true)], args := [d1, d2, d3] }
  | _ => none }
def unifyCanRow : OpenClaim := { program := "ytigabemldjdlhaadoor", sum := "10b68d0070dd16536ff945d3f27933d55f10f050386321a648c446c4afe0830e", func := "lodestone/lodestonelaw06.UnifyCan", spec := "unifyCan", unfollowed := true, recurses := true, named := ["unicode/utf8.first", "unicode/utf8.acceptRanges"], apart := false, laid := [("unicode/utf8.acceptRanges", laid_unicode_utf8_acceptRanges), ("unicode/utf8.first", laid_unicode_utf8_first)] }
def UnifyCanSaid : Prop := unifyCanRow.holds Tryd.pinned (OpenSpec.ofChange unifyCanSpec)

/-- ITS FALSE NEIGHBOUR: 'it returns false'. Refute it at one input. -/
def unifyCanWrong : ChangeSpec := { name := "unifyCan", fn := fun _ => fun
  | [d1, d2, d3] => { results := [.lit (.bool false)], args := [d1, d2, d3] }
  | _ => none }
def UnifyCanWrongFalsely : Prop := unifyCanRow.holds Tryd.pinned (OpenSpec.ofChange unifyCanWrong)

/-- 'lodestonelaw06.UnifyTurned': WHATEVER THE INPUT: true; the input reads as it did. -/
def unifyTurnedSpec : ChangeSpec := { name := "unifyTurned", fn := fun _ => fun
  | [d1, d2, d3] => { results := [.lit (.bool true)], args := [d1, d2, d3] }
  | _ => none }
def unifyTurnedRow : OpenClaim := { program := "ytigabemldjdlhaadoor", sum := "10b68d0070dd16536ff945d3f27933d55f10f050386321a648c446c4afe0830e", func := "lodestone/lodestonelaw06.UnifyTurned", spec := "unifyTurned", unfollowed := true, recurses := true, named := ["unicode/utf8.first", "unicode/utf8.acceptRanges"], apart := false, laid := [("unicode/utf8.acceptRanges", laid_unicode_utf8_acceptRanges), ("unicode/utf8.first", laid_unicode_utf8_first)] }
def UnifyTurnedSaid : Prop := unifyTurnedRow.holds Tryd.pinned (OpenSpec.ofChange unifyTurnedSpec)

/-- ITS FALSE NEIGHBOUR: 'it returns false'. Refute it at one input. -/
def unifyTurnedWrong : ChangeSpec := { name := "unifyTurned", fn := fun _ => fun
  | [d1, d2, d3] => { results := [.lit (.bool false)], args := [d1, d2, d3] }
  | _ => none }
def UnifyTurnedWrongFalsely : Prop := unifyTurnedRow.holds Tryd.pinned (OpenSpec.ofChange unifyTurnedWrong)

/-- 'lodestonelaw05.MatchBack': WHATEVER THE INPUT: true; the input reads as it did. -/
def matchBackSpec : ChangeSpec := { name := "matchBack", fn := fun _ => fun
  | [d1, d2, d3] => { results := [.lit (.bool true)], args := [d1, d2, d3] }
  | _ => none }
def matchBackRow : OpenClaim := { program := "ytigabemldjdlhaadoor", sum := "10b68d0070dd16536ff945d3f27933d55f10f050386321a648c446c4afe0830e", func := "lodestone/lodestonelaw05.MatchBack", spec := "matchBack", unfollowed := true, recurses := true, named := ["unicode/utf8.first", "unicode/utf8.acceptRanges"], apart := false, laid := [("unicode/utf8.acceptRanges", laid_unicode_utf8_acceptRanges), ("unicode/utf8.first", laid_unicode_utf8_first)] }
def MatchBackSaid : Prop := matchBackRow.holds Tryd.pinned (OpenSpec.ofChange matchBackSpec)

/-- ITS FALSE NEIGHBOUR: 'it returns false'. Refute it at one input. -/
def matchBackWrong : ChangeSpec := { name := "matchBack", fn := fun _ => fun
  | [d1, d2, d3] => { results := [.lit (.bool false)], args := [d1, d2, d3] }
  | _ => none }
def MatchBackWrongFalsely : Prop := matchBackRow.holds Tryd.pinned (OpenSpec.ofChange matchBackWrong)

/-- 'lodestonelaw06.UnifyGeneral': WHATEVER THE INPUT: true; the input reads as it did. -/
def unifyGeneralSpec : ChangeSpec := { name := "unifyGeneral", fn := fun _ => fun
  | [d1, d2, d3, d4] => { results := [.lit (.bool true)], args := [d1, d2, d3, d4] }
  | _ => none }
def unifyGeneralRow : OpenClaim := { program := "ytigabemldjdlhaadoor", sum := "10b68d0070dd16536ff945d3f27933d55f10f050386321a648c446c4afe0830e", func := "lodestone/lodestonelaw06.UnifyGeneral", spec := "unifyGeneral", unfollowed := true, recurses := true, named := ["unicode/utf8.first", "unicode/utf8.acceptRanges"], apart := false, laid := [("unicode/utf8.acceptRanges", laid_unicode_utf8_acceptRanges), ("unicode/utf8.first", laid_unicode_utf8_first)] }
def UnifyGeneralSaid : Prop := unifyGeneralRow.holds Tryd.pinned (OpenSpec.ofChange unifyGeneralSpec)

/-- ITS FALSE NEIGHBOUR: 'it returns false'. Refute it at one input. -/
def unifyGeneralWrong : ChangeSpec := { name := "unifyGeneral", fn := fun _ => fun
  | [d1, d2, d3, d4] => { results := [.lit (.bool false)], args := [d1, d2, d3, d4] }
  | _ => none }
def UnifyGeneralWrongFalsely : Prop := unifyGeneralRow.holds Tryd.pinned (OpenSpec.ofChange unifyGeneralWrong)

/-- 'lodestonelaw06.UnifyOne': WHATEVER THE INPUT: true; the input reads as it did. -/
def unifyOneSpec : ChangeSpec := { name := "unifyOne", fn := fun _ => fun
  | [d1, d2, d3] => { results := [.lit (.bool true)], args := [d1, d2, d3] }
  | _ => none }
def unifyOneRow : OpenClaim := { program := "ytigabemldjdlhaadoor", sum := "10b68d0070dd16536ff945d3f27933d55f10f050386321a648c446c4afe0830e", func := "lodestone/lodestonelaw06.UnifyOne", spec := "unifyOne", unfollowed := true, recurses := true, named := ["unicode/utf8.first", "unicode/utf8.acceptRanges"], apart := false, laid := [("unicode/utf8.acceptRanges", laid_unicode_utf8_acceptRanges), ("unicode/utf8.first", laid_unicode_utf8_first)] }
def UnifyOneSaid : Prop := unifyOneRow.holds Tryd.pinned (OpenSpec.ofChange unifyOneSpec)

/-- ITS FALSE NEIGHBOUR: 'it returns false'. Refute it at one input. -/
def unifyOneWrong : ChangeSpec := { name := "unifyOne", fn := fun _ => fun
  | [d1, d2, d3] => { results := [.lit (.bool false)], args := [d1, d2, d3] }
  | _ => none }
def UnifyOneWrongFalsely : Prop := unifyOneRow.holds Tryd.pinned (OpenSpec.ofChange unifyOneWrong)

/-- 'lodestonelaw06.UnifyInside': WHATEVER THE INPUT: true; the input reads as it did. -/
def unifyInsideSpec : ChangeSpec := { name := "unifyInside", fn := fun _ => fun
  | [d1, d2, d3] => { results := [.lit (.bool true)], args := [d1, d2, d3] }
  | _ => none }
def unifyInsideRow : OpenClaim := { program := "ytigabemldjdlhaadoor", sum := "10b68d0070dd16536ff945d3f27933d55f10f050386321a648c446c4afe0830e", func := "lodestone/lodestonelaw06.UnifyInside", spec := "unifyInside", unfollowed := true, recurses := true, named := ["unicode/utf8.first", "unicode/utf8.acceptRanges"], apart := false, laid := [("unicode/utf8.acceptRanges", laid_unicode_utf8_acceptRanges), ("unicode/utf8.first", laid_unicode_utf8_first)] }
def UnifyInsideSaid : Prop := unifyInsideRow.holds Tryd.pinned (OpenSpec.ofChange unifyInsideSpec)

/-- ITS FALSE NEIGHBOUR: 'it returns false'. Refute it at one input. -/
def unifyInsideWrong : ChangeSpec := { name := "unifyInside", fn := fun _ => fun
  | [d1, d2, d3] => { results := [.lit (.bool false)], args := [d1, d2, d3] }
  | _ => none }
def UnifyInsideWrongFalsely : Prop := unifyInsideRow.holds Tryd.pinned (OpenSpec.ofChange unifyInsideWrong)

/- THE SECOND FORM. 'bulk': how many values and letters a reading holds, each counted each time it is reached (what is shared counts as often as it is met; a slice's spare places count too). A statement '..UptoSaid' is the law's where the arguments, and the package variables that the reading takes, are together of bulk at most 1048576: NARROWER than '..Said'. Prove '..Said' where nothing that the law and all that it calls make is longer than what came in: it says more and counts as full. Else prove '..UptoSaid'. A law counts once. -/
mutual
def uptoBulk {H : Type} : DataW H → Nat
  | .lit (.string bytes) => bytes.length + 1
  | .lit _ => 1
  | .nil => 1
  | .ptr d => uptoBulk d + 1
  | .slice elems spare => uptoBulkAll elems + uptoBulkAll spare + 1
  | .agg parts => uptoBulkAll parts + 1
  | .iface _ d => uptoBulk d + 1
  | .map entries => uptoBulkEntries entries + 1
  | .held _ => 1
def uptoBulkAll {H : Type} : List (DataW H) → Nat
  | [] => 0
  | d :: r => uptoBulk d + uptoBulkAll r
def uptoBulkEntries {H : Type} : List (Lit × DataW H) → Nat
  | [] => 0
  | x :: r => uptoBulkEntry x + uptoBulkEntries r
def uptoBulkEntry {H : Type} : Lit × DataW H → Nat
  | (.string bytes, d) => bytes.length + uptoBulk d + 1
  | (_, d) => uptoBulk d + 1
 end
def uptoSmall : (H : Type) → List (DataW H) → Bool := fun _ ds => decide (uptoBulkAll ds ≤ 1048576)
def OpenSpec.upto (s : _root_.Go.ChangeSpec) : _root_.Go.OpenSpec := { _root_.Go.OpenSpec.ofChange s with cond := some uptoSmall }

/-- 'lodestonelaw05.MatchFinds', WHERE WHAT IT READS IS OF BULK AT MOST 1048576: true; the input reads as it did. -/
def matchFindsUptoRow : OpenClaim := { program := "ytigabemldjdlhaadoor", sum := "10b68d0070dd16536ff945d3f27933d55f10f050386321a648c446c4afe0830e", func := "lodestone/lodestonelaw05.MatchFinds", spec := "matchFinds", unfollowed := true, recurses := true, named := ["unicode/utf8.first", "unicode/utf8.acceptRanges"], apart := false, laid := [("unicode/utf8.acceptRanges", laid_unicode_utf8_acceptRanges), ("unicode/utf8.first", laid_unicode_utf8_first)], narrowed := true }
def MatchFindsUptoSaid : Prop := matchFindsUptoRow.holds Tryd.pinned (OpenSpec.upto matchFindsSpec)

/-- 'lodestonelaw05.MatchVariants', WHERE WHAT IT READS IS OF BULK AT MOST 1048576: true; the input reads as it did. -/
def matchVariantsUptoRow : OpenClaim := { program := "ytigabemldjdlhaadoor", sum := "10b68d0070dd16536ff945d3f27933d55f10f050386321a648c446c4afe0830e", func := "lodestone/lodestonelaw05.MatchVariants", spec := "matchVariants", unfollowed := true, recurses := true, named := ["unicode/utf8.first", "unicode/utf8.acceptRanges"], apart := false, laid := [("unicode/utf8.acceptRanges", laid_unicode_utf8_acceptRanges), ("unicode/utf8.first", laid_unicode_utf8_first)], narrowed := true }
def MatchVariantsUptoSaid : Prop := matchVariantsUptoRow.holds Tryd.pinned (OpenSpec.upto matchVariantsSpec)

/-- 'lodestonelaw05.MatchKinds', WHERE WHAT IT READS IS OF BULK AT MOST 1048576: true; the input reads as it did. -/
def matchKindsUptoRow : OpenClaim := { program := "ytigabemldjdlhaadoor", sum := "10b68d0070dd16536ff945d3f27933d55f10f050386321a648c446c4afe0830e", func := "lodestone/lodestonelaw05.MatchKinds", spec := "matchKinds", unfollowed := true, recurses := true, named := ["unicode/utf8.first", "unicode/utf8.acceptRanges"], apart := false, laid := [("unicode/utf8.acceptRanges", laid_unicode_utf8_acceptRanges), ("unicode/utf8.first", laid_unicode_utf8_first)], narrowed := true }
def MatchKindsUptoSaid : Prop := matchKindsUptoRow.holds Tryd.pinned (OpenSpec.upto matchKindsSpec)

/-- 'lodestonelaw05.MatchInside', WHERE WHAT IT READS IS OF BULK AT MOST 1048576: true; the input reads as it did. -/
def matchInsideUptoRow : OpenClaim := { program := "ytigabemldjdlhaadoor", sum := "10b68d0070dd16536ff945d3f27933d55f10f050386321a648c446c4afe0830e", func := "lodestone/lodestonelaw05.MatchInside", spec := "matchInside", unfollowed := true, recurses := true, named := ["unicode/utf8.first", "unicode/utf8.acceptRanges"], apart := false, laid := [("unicode/utf8.acceptRanges", laid_unicode_utf8_acceptRanges), ("unicode/utf8.first", laid_unicode_utf8_first)], narrowed := true }
def MatchInsideUptoSaid : Prop := matchInsideUptoRow.holds Tryd.pinned (OpenSpec.upto matchInsideSpec)

/-- 'lodestonelaw06.UnifyFinds', WHERE WHAT IT READS IS OF BULK AT MOST 1048576: true; the input reads as it did. -/
def unifyFindsUptoRow : OpenClaim := { program := "ytigabemldjdlhaadoor", sum := "10b68d0070dd16536ff945d3f27933d55f10f050386321a648c446c4afe0830e", func := "lodestone/lodestonelaw06.UnifyFinds", spec := "unifyFinds", unfollowed := true, recurses := true, named := ["unicode/utf8.first", "unicode/utf8.acceptRanges"], apart := false, laid := [("unicode/utf8.acceptRanges", laid_unicode_utf8_acceptRanges), ("unicode/utf8.first", laid_unicode_utf8_first)], narrowed := true }
def UnifyFindsUptoSaid : Prop := unifyFindsUptoRow.holds Tryd.pinned (OpenSpec.upto unifyFindsSpec)

/-- 'lodestonelaw06.UnifyCan', WHERE WHAT IT READS IS OF BULK AT MOST 1048576: true; the input reads as it did. -/
def unifyCanUptoRow : OpenClaim := { program := "ytigabemldjdlhaadoor", sum := "10b68d0070dd16536ff945d3f27933d55f10f050386321a648c446c4afe0830e", func := "lodestone/lodestonelaw06.UnifyCan", spec := "unifyCan", unfollowed := true, recurses := true, named := ["unicode/utf8.first", "unicode/utf8.acceptRanges"], apart := false, laid := [("unicode/utf8.acceptRanges", laid_unicode_utf8_acceptRanges), ("unicode/utf8.first", laid_unicode_utf8_first)], narrowed := true }
def UnifyCanUptoSaid : Prop := unifyCanUptoRow.holds Tryd.pinned (OpenSpec.upto unifyCanSpec)

/-- 'lodestonelaw06.UnifyTurned', WHERE WHAT IT READS IS OF BULK AT MOST 1048576: true; the input reads as it did. -/
def unifyTurnedUptoRow : OpenClaim := { program := "ytigabemldjdlhaadoor", sum := "10b68d0070dd16536ff945d3f27933d55f10f050386321a648c446c4afe0830e", func := "lodestone/lodestonelaw06.UnifyTurned", spec := "unifyTurned", unfollowed := true, recurses := true, named := ["unicode/utf8.first", "unicode/utf8.acceptRanges"], apart := false, laid := [("unicode/utf8.acceptRanges", laid_unicode_utf8_acceptRanges), ("unicode/utf8.first", laid_unicode_utf8_first)], narrowed := true }
def UnifyTurnedUptoSaid : Prop := unifyTurnedUptoRow.holds Tryd.pinned (OpenSpec.upto unifyTurnedSpec)

/-- 'lodestonelaw05.MatchBack', WHERE WHAT IT READS IS OF BULK AT MOST 1048576: true; the input reads as it did. -/
def matchBackUptoRow : OpenClaim := { program := "ytigabemldjdlhaadoor", sum := "10b68d0070dd16536ff945d3f27933d55f10f050386321a648c446c4afe0830e", func := "lodestone/lodestonelaw05.MatchBack", spec := "matchBack", unfollowed := true, recurses := true, named := ["unicode/utf8.first", "unicode/utf8.acceptRanges"], apart := false, laid := [("unicode/utf8.acceptRanges", laid_unicode_utf8_acceptRanges), ("unicode/utf8.first", laid_unicode_utf8_first)], narrowed := true }
def MatchBackUptoSaid : Prop := matchBackUptoRow.holds Tryd.pinned (OpenSpec.upto matchBackSpec)

/-- 'lodestonelaw06.UnifyGeneral', WHERE WHAT IT READS IS OF BULK AT MOST 1048576: true; the input reads as it did. -/
def unifyGeneralUptoRow : OpenClaim := { program := "ytigabemldjdlhaadoor", sum := "10b68d0070dd16536ff945d3f27933d55f10f050386321a648c446c4afe0830e", func := "lodestone/lodestonelaw06.UnifyGeneral", spec := "unifyGeneral", unfollowed := true, recurses := true, named := ["unicode/utf8.first", "unicode/utf8.acceptRanges"], apart := false, laid := [("unicode/utf8.acceptRanges", laid_unicode_utf8_acceptRanges), ("unicode/utf8.first", laid_unicode_utf8_first)], narrowed := true }
def UnifyGeneralUptoSaid : Prop := unifyGeneralUptoRow.holds Tryd.pinned (OpenSpec.upto unifyGeneralSpec)

/-- 'lodestonelaw06.UnifyOne', WHERE WHAT IT READS IS OF BULK AT MOST 1048576: true; the input reads as it did. -/
def unifyOneUptoRow : OpenClaim := { program := "ytigabemldjdlhaadoor", sum := "10b68d0070dd16536ff945d3f27933d55f10f050386321a648c446c4afe0830e", func := "lodestone/lodestonelaw06.UnifyOne", spec := "unifyOne", unfollowed := true, recurses := true, named := ["unicode/utf8.first", "unicode/utf8.acceptRanges"], apart := false, laid := [("unicode/utf8.acceptRanges", laid_unicode_utf8_acceptRanges), ("unicode/utf8.first", laid_unicode_utf8_first)], narrowed := true }
def UnifyOneUptoSaid : Prop := unifyOneUptoRow.holds Tryd.pinned (OpenSpec.upto unifyOneSpec)

/-- 'lodestonelaw06.UnifyInside', WHERE WHAT IT READS IS OF BULK AT MOST 1048576: true; the input reads as it did. -/
def unifyInsideUptoRow : OpenClaim := { program := "ytigabemldjdlhaadoor", sum := "10b68d0070dd16536ff945d3f27933d55f10f050386321a648c446c4afe0830e", func := "lodestone/lodestonelaw06.UnifyInside", spec := "unifyInside", unfollowed := true, recurses := true, named := ["unicode/utf8.first", "unicode/utf8.acceptRanges"], apart := false, laid := [("unicode/utf8.acceptRanges", laid_unicode_utf8_acceptRanges), ("unicode/utf8.first", laid_unicode_utf8_first)], narrowed := true }
def UnifyInsideUptoSaid : Prop := unifyInsideUptoRow.holds Tryd.pinned (OpenSpec.upto unifyInsideSpec)

end Rows
end Go.Proofs.YtigabemldjdlhaaDoor

/- For every system and every row, of a bulk of at most 1048576, the statement StepAll answers true: step.All's redexes are those of the document's answer. -/
import Derived.Test.YtfjgfcnhklopdaaDoorSxr
namespace Go.Proofs.YtfjgfcnhklopdaaDoor
theorem stepAll_card : Rows.StepAllUptoCardSaid := Ld.cardUpto
end Go.Proofs.YtfjgfcnhklopdaaDoor

/- For every system, row and redex, of a bulk of at most 1048576, the statement StepDoes answers true: step.Do does each redex as the document's answer does. -/
import Derived.Test.YtfjgfcnhklopdaaDoorSyr
namespace Go.Proofs.YtfjgfcnhklopdaaDoor
theorem stepDoes_card : Rows.StepDoesUptoCardSaid := Ld.cardUpto
end Go.Proofs.YtfjgfcnhklopdaaDoor

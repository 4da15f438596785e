/- what matches at the root goes on to match under binds, and is rewritten alike: card, second form -/
import Derived.Test.YtfjgfcnhklopdaaDoorSbr
namespace Go.Proofs.YtfjgfcnhklopdaaDoor
theorem stepBinds_card : Rows.StepBindsUptoCardSaid := Ld.cardUpto
end Go.Proofs.YtfjgfcnhklopdaaDoor

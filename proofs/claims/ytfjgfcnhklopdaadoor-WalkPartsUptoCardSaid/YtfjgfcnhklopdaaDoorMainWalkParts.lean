/- A walk of fewer steps is a beginning of a longer one, for every right system and every term. -/
import Derived.Test.YtfjgfcnhklopdaaDoorWkr
namespace Go.Proofs.YtfjgfcnhklopdaaDoor
theorem walkParts_card : Rows.WalkPartsUptoCardSaid := Ld.cardUpto
end Go.Proofs.YtfjgfcnhklopdaaDoor

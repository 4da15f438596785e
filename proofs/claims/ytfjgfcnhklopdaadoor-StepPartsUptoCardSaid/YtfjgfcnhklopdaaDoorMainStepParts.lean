/- StepParts answers true at every system and term whose bulk is at most 1048576: the redexes that are not at a term's root are those of its arguments, and rewriting an argument is rewriting the term there. -/
import Derived.Test.YtfjgfcnhklopdaaDoorSpr
namespace Go.Proofs.YtfjgfcnhklopdaaDoor
theorem stepParts_card : Rows.StepPartsUptoCardSaid := Ld.cardUpto
end Go.Proofs.YtfjgfcnhklopdaaDoor

/- WalkNamed answers true at every system, term and number whose bulk is at most 1048576: the walk of a term whose variables are all moved has the same steps and its end moved alike. -/
import Derived.Test.YtfjgfcnhklopdaaDoorWnr
namespace Go.Proofs.YtfjgfcnhklopdaaDoor
theorem walkNamed_card : Rows.WalkNamedUptoCardSaid := Ld.cardUpto
end Go.Proofs.YtfjgfcnhklopdaaDoor

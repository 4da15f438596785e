/- Two rules are variants just if the document's reference says so (lodestonelaw05.MatchVariants), for every world in which the laid package variables stand as they are laid and every bulk of arguments up to the bound that the statement names. -/
import Derived.Test.YtigabemldjdlhaaDoorVr
namespace Go.Proofs.YtigabemldjdlhaaDoor
theorem matchVariants_card : Rows.MatchVariantsUptoCardSaid := Ld.cardUpto
end Go.Proofs.YtigabemldjdlhaaDoor

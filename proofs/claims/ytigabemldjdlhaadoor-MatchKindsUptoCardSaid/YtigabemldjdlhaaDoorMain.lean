/- Being a variant is an equivalence (lodestonelaw05.MatchKinds), for every world in which the laid package variables stand as they are laid and every bulk of arguments up to the bound that the statement names. -/
import Derived.Test.YtigabemldjdlhaaDoorK8
namespace Go.Proofs.YtigabemldjdlhaaDoor
theorem matchKinds_card : Rows.MatchKindsUptoCardSaid := Ld.cardUpto
end Go.Proofs.YtigabemldjdlhaaDoor

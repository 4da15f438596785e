/- Where a pattern matches, each part of it matches the part that stands there, with the same binds (lodestonelaw05.MatchInside), for every world in which the laid package variables stand as they are laid and every bulk of arguments up to the bound that the statement names. -/
import Derived.Test.YtigabemldjdlhaaDoorMir
namespace Go.Proofs.YtigabemldjdlhaaDoor
theorem matchInside_card : Rows.MatchInsideUptoCardSaid := Ld.cardUpto
end Go.Proofs.YtigabemldjdlhaaDoor

/- the binds of a match make the pattern the term: card, second form -/
import Derived.Test.YtigabemldjdlhaaDoorMbr
namespace Go.Proofs.YtigabemldjdlhaaDoor
theorem matchBack_card : Rows.MatchBackUptoCardSaid := Ld.cardUpto
end Go.Proofs.YtigabemldjdlhaaDoor

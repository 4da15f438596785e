/- What sums and products of polynomials are worth is the sum and the product of what these are worth, wherever nothing is too big. -/
import Derived.Test.YtmkohpkfeamjiaaPw
namespace Go.Proofs.Ytmkohpkfeamjiaa
theorem polyWorth_upto : Rows.PolyWorthUptoSaid := Ld.saidUpto
end Go.Proofs.Ytmkohpkfeamjiaa

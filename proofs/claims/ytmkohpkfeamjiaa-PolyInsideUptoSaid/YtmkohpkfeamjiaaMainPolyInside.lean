/- What polynomials laid into a polynomial are worth is what that polynomial is worth at their worths. -/
import Derived.Test.YtmkohpkfeamjiaaPi
namespace Go.Proofs.Ytmkohpkfeamjiaa
theorem polyInside_upto : Rows.PolyInsideUptoSaid := Ld.saidUpto
end Go.Proofs.Ytmkohpkfeamjiaa

/- Polynomials are a ring under the program's sums and products, wherever nothing is too big. -/
import Derived.Test.YtmkohpkfeamjiaaPr
namespace Go.Proofs.Ytmkohpkfeamjiaa
theorem polyRing_upto : Rows.PolyRingUptoSaid := Ld.saidUpto
end Go.Proofs.Ytmkohpkfeamjiaa

/- The program's polynomials of polynomials answer what the document's do; what is handed in stays, and what comes out is the caller's own. -/
import Derived.Test.YtmkohpkfeamjiaaPc
namespace Go.Proofs.Ytmkohpkfeamjiaa
theorem polyComposes_upto : Rows.PolyComposesUptoSaid := Ld.saidUpto
end Go.Proofs.Ytmkohpkfeamjiaa

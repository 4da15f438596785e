/- The program's product of two polynomials answers what the document's does; what is handed in stays, and what comes out is the caller's own. -/
import Derived.Test.YtmkohpkfeamjiaaPp
namespace Go.Proofs.Ytmkohpkfeamjiaa
theorem polyProducts_upto : Rows.PolyProductsUptoSaid := Ld.saidUpto
end Go.Proofs.Ytmkohpkfeamjiaa

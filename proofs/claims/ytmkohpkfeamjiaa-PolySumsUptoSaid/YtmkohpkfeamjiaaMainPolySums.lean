/- The program's sum of two polynomials and its comparisons answer what the document's do; what is handed in stays, and what comes out is the caller's own. -/
import Derived.Test.YtmkohpkfeamjiaaPs
namespace Go.Proofs.Ytmkohpkfeamjiaa
theorem polySums_upto : Rows.PolySumsUptoSaid := Ld.saidUpto
end Go.Proofs.Ytmkohpkfeamjiaa

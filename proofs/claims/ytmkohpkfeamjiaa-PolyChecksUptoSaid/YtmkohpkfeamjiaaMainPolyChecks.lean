/- The program's check of a row of monomials, made on a copy of it, answers what the document's check answers, and the copy stays the same. -/
import Derived.Test.YtmkohpkfeamjiaaPk
namespace Go.Proofs.Ytmkohpkfeamjiaa
theorem polyChecks_upto : Rows.PolyChecksUptoSaid := Ld.saidUpto
end Go.Proofs.Ytmkohpkfeamjiaa

/- What the program says that a polynomial is worth is what the document says, value and refusal alike. -/
import Derived.Test.YtmkohpkfeamjiaaPv
namespace Go.Proofs.Ytmkohpkfeamjiaa
theorem polyValues_upto : Rows.PolyValuesUptoSaid := Ld.saidUpto
end Go.Proofs.Ytmkohpkfeamjiaa

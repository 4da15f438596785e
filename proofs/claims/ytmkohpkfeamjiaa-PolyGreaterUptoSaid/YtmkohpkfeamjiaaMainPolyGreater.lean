/- Where a polynomial is at least another, or greater, so are its values, wherever both are worth something. -/
import Derived.Test.YtmkohpkfeamjiaaPg
namespace Go.Proofs.Ytmkohpkfeamjiaa
theorem polyGreater_upto : Rows.PolyGreaterUptoSaid := Ld.saidUpto
end Go.Proofs.Ytmkohpkfeamjiaa

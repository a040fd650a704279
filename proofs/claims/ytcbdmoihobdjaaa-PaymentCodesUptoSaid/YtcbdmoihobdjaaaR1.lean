import Derived.Test.YtcbdmoihobdjaaaR0
namespace Go.Proofs.Ytcbdmoihobdjaaa
open Go.RowKit
def rvalidM (i : S_api_Item) (w : Int) : Bool := withinM i (8 - w)
def rreadM (b : List Int) (w : Int) : S_api_Item × List Int × Int := match rdI (8 - w).toNat b with
 | .ok (i, r) => (i, r, 0)
 | .error e => (z_api_Item, [], e)
end Go.Proofs.Ytcbdmoihobdjaaa

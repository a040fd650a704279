/- The data types of the program, and what they are in the machine (printed by program). -/
import Derived.Test.YtndjbfdbngkkiaaK
import Derived.Test.YtndjbfdbngkkiaaVO
namespace Go.Proofs.Ytndjbfdbngkkiaa
open Go.RowKit
structure S_api_Denom where
  Value : Int
  Depth : Int
def z_api_Denom : S_api_Denom := { Value := (0 : Int), Depth := (0 : Int) }
instance : Inhabited S_api_Denom := ⟨z_api_Denom⟩
@[simp] def set_api_Denom_Value (d : S_api_Denom) (x : Int) : S_api_Denom := { d with Value := x }
@[simp] def set_api_Denom_Depth (d : S_api_Denom) (x : Int) : S_api_Denom := { d with Depth := x }
structure S_denom_way where
  ok : Bool
  coins : Int
  last : Int
def z_denom_way : S_denom_way := { ok := false, coins := (0 : Int), last := (0 : Int) }
instance : Inhabited S_denom_way := ⟨z_denom_way⟩
@[simp] def set_denom_way_ok (d : S_denom_way) (x : Bool) : S_denom_way := { d with ok := x }
@[simp] def set_denom_way_coins (d : S_denom_way) (x : Int) : S_denom_way := { d with coins := x }
@[simp] def set_denom_way_last (d : S_denom_way) (x : Int) : S_denom_way := { d with last := x }
def e_api_Denom (x : S_api_Denom) : V := .agg [.int .i64 x.Value, .int .i64 x.Depth]
attribute [go_sem] e_api_Denom
def e_denom_way (x : S_denom_way) : V := .agg [.bool x.ok, .int .i64 x.coins, .int .i64 x.last]
attribute [go_sem] e_denom_way
end Go.Proofs.Ytndjbfdbngkkiaa

/- The data types of the program, and what they are in the machine (printed by program). -/
import Derived.Test.YtbjbogfjiifcpaaDoorK
import Derived.Test.YtbjbogfjiifcpaaDoorVS
namespace Go.Proofs.YtbjbogfjiifcpaaDoor
open Go.RowKit
structure S_api_Rule where
  Kind : Int
  A : Int
  B : Int
def z_api_Rule : S_api_Rule := { Kind := (0 : Int), A := (0 : Int), B := (0 : Int) }
instance : Inhabited S_api_Rule := ⟨z_api_Rule⟩
@[go_sem] theorem z_api_Rule_Kind : z_api_Rule.Kind = (0 : Int) := Eq.trans rfl rfl
@[go_sem] theorem z_api_Rule_A : z_api_Rule.A = (0 : Int) := Eq.trans rfl rfl
@[go_sem] theorem z_api_Rule_B : z_api_Rule.B = (0 : Int) := Eq.trans rfl rfl
structure S_api_Policy where
  Rules : (List S_api_Rule)
def z_api_Policy : S_api_Policy := { Rules := [] }
instance : Inhabited S_api_Policy := ⟨z_api_Policy⟩
@[go_sem] theorem z_api_Policy_Rules : z_api_Policy.Rules = [] := Eq.trans rfl rfl
def e_api_Rule (x : S_api_Rule) : V := .agg [.int .i64 x.Kind, .int .i64 x.A, .int .i64 x.B]
attribute [go_sem] e_api_Rule
def e_api_Policy (x : S_api_Policy) : V := .agg [.sl none 3 true (x.Rules.map e_api_Rule)]
attribute [go_sem] e_api_Policy
def q_api_Rule (a b : S_api_Rule) : Bool := (a.Kind == b.Kind && (a.A == b.A && a.B == b.B))
attribute [go_sem] q_api_Rule
end Go.Proofs.YtbjbogfjiifcpaaDoor

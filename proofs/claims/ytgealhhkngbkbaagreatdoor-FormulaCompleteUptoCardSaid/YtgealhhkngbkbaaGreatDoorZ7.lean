/- Texts of this proof, one after the other: EW. -/
import Derived.Test.YtgealhhkngbkbaaGreatDoorZ4
set_option linter.unusedSimpArgs false
set_option linter.unusedVariables false
namespace Go.Proofs.YtgealhhkngbkbaaGreatDoor
open Go.RowKit
section
variable {E:Env} {c0 c:Cx} {ρ:Ro} {S:St} {F:Fm}
def wY (E:Env):Nat→Nat→List (Nat×Nat)→List Oper→(St→Prop)→St→Prop
 | 0,i,ds,l,K,S=> ∃S1,cC E S S1∧ii E i ds l K S1
 | m+1,i,ds,o::l,K,S=>rT S ds o (rS E S o (wY E m (i+1) (iV i o.dst ds) l K)) (wY E m (i+1) (iV i o.dst ds) l K (S.put o.dst (.tup [])))
 | _+1,_,_,[],K,S=>K S
def Q0 (E:Env) (J:cM) (m:Nat) (ops:Array Oper) (rest:Code) (Q:Exit→St→Prop):Exit→St→Prop
 | .normal,S=>wY E m 0 [] ops.toList (wpA E J rest Q) S
 | e,S=>Q e S
end
end Go.Proofs.YtgealhhkngbkbaaGreatDoor

/-
  No cell of these rows narrows 'for every input' (looked for: loops, veiled, ifaces, maps, wideKeys, modest, calm, conditions, laid).
  DERIVED. THE GIVEN ROWS OF THIS SEAT. 4 by the template 'for every input the law returns true; each argument reads behind the call as it read before'; 0 by the template 'total and deterministic' (their statements: YtndjbfdbngkkiaaTotals.lean).
  GIVEN WITH THE SEED: the statements are not yours to turn. If you find one false, say at which input.
  Laid BY PROGRAM, IN A SANDBOX (cutbox-rows.mjs): the forced cells as the released guide's own fill.sh prints them over the translation 743660a05355ebc1… (all of the seat's roots in one cut). By AI agents, Wed Nov 11 2026. No macro, syntax, notation, axiom, sorry.
-/
import Derived.Test.YtndjbfdbngkkiaaChecked
import GoSem.Claim
import GoSem.ClaimJoined
import GoSem.ClaimMapViews
import Derived.JoinedTies
import Derived.KernelRfl
namespace Go.Proofs.Ytndjbfdbngkkiaa
/- THE CELL 'sum', in the pinned program and in every row, IS THE sha256 OF THE DUMP (.gsa) THAT YtndjbfdbngkkiaaProg.lean LOADS. Nothing in Lean hashes anything: it is a label: what it is worth is what the hold of that sum in a sandbox is worth. -/
noncomputable def Try.pinned : Pinned := { name := "ytndjbfdbngkkiaa", sum := "743660a05355ebc15c7ff26d885726e4c9874c984a1e63e90f964195b11451b5", checked := Try.checked }
namespace Rows
def none {H : Type} : Left H := { results := [], args := [] }

/-- 'specielaw28.DenomPays': WHATEVER THE INPUT: true; the input reads as it did. -/
def denomPaysSpec : ChangeSpec := { name := "denomPays", fn := fun _ => fun
  | [d1, d2, d3] => { results := [.lit (.bool true)], args := [d1, d2, d3] }
  | _ => none }
def denomPaysRow : OpenClaim := { program := "ytndjbfdbngkkiaa", sum := "743660a05355ebc15c7ff26d885726e4c9874c984a1e63e90f964195b11451b5", func := "specie/specielaw28.DenomPays", spec := "denomPays", unfollowed := true, recurses := true, apart := false }
def DenomPaysSaid : Prop := denomPaysRow.holds Try.pinned (OpenSpec.ofChange denomPaysSpec)

/-- ITS FALSE NEIGHBOUR: 'it returns false'. Refute it at one input. -/
def denomPaysWrong : ChangeSpec := { name := "denomPays", fn := fun _ => fun
  | [d1, d2, d3] => { results := [.lit (.bool false)], args := [d1, d2, d3] }
  | _ => none }
def DenomPaysWrongFalsely : Prop := denomPaysRow.holds Try.pinned (OpenSpec.ofChange denomPaysWrong)

/-- 'specielaw28.DenomEnough': WHATEVER THE INPUT: true; the input reads as it did. -/
def denomEnoughSpec : ChangeSpec := { name := "denomEnough", fn := fun _ => fun
  | [d1, d2, d3] => { results := [.lit (.bool true)], args := [d1, d2, d3] }
  | _ => none }
def denomEnoughRow : OpenClaim := { program := "ytndjbfdbngkkiaa", sum := "743660a05355ebc15c7ff26d885726e4c9874c984a1e63e90f964195b11451b5", func := "specie/specielaw28.DenomEnough", spec := "denomEnough", unfollowed := true, recurses := true, apart := false }
def DenomEnoughSaid : Prop := denomEnoughRow.holds Try.pinned (OpenSpec.ofChange denomEnoughSpec)

/-- ITS FALSE NEIGHBOUR: 'it returns false'. Refute it at one input. -/
def denomEnoughWrong : ChangeSpec := { name := "denomEnough", fn := fun _ => fun
  | [d1, d2, d3] => { results := [.lit (.bool false)], args := [d1, d2, d3] }
  | _ => none }
def DenomEnoughWrongFalsely : Prop := denomEnoughRow.holds Try.pinned (OpenSpec.ofChange denomEnoughWrong)

/-- 'specielaw28.DenomExact': WHATEVER THE INPUT: true; the input reads as it did. -/
def denomExactSpec : ChangeSpec := { name := "denomExact", fn := fun _ => fun
  | [d1, d2] => { results := [.lit (.bool true)], args := [d1, d2] }
  | _ => none }
def denomExactRow : OpenClaim := { program := "ytndjbfdbngkkiaa", sum := "743660a05355ebc15c7ff26d885726e4c9874c984a1e63e90f964195b11451b5", func := "specie/specielaw28.DenomExact", spec := "denomExact", unfollowed := true, recurses := true, apart := false }
def DenomExactSaid : Prop := denomExactRow.holds Try.pinned (OpenSpec.ofChange denomExactSpec)

/-- ITS FALSE NEIGHBOUR: 'it returns false'. Refute it at one input. -/
def denomExactWrong : ChangeSpec := { name := "denomExact", fn := fun _ => fun
  | [d1, d2] => { results := [.lit (.bool false)], args := [d1, d2] }
  | _ => none }
def DenomExactWrongFalsely : Prop := denomExactRow.holds Try.pinned (OpenSpec.ofChange denomExactWrong)

/-- 'specielaw28.DenomSums': WHATEVER THE INPUT: true; the input reads as it did. -/
def denomSumsSpec : ChangeSpec := { name := "denomSums", fn := fun _ => fun
  | [d1, d2, d3] => { results := [.lit (.bool true)], args := [d1, d2, d3] }
  | _ => none }
def denomSumsRow : OpenClaim := { program := "ytndjbfdbngkkiaa", sum := "743660a05355ebc15c7ff26d885726e4c9874c984a1e63e90f964195b11451b5", func := "specie/specielaw28.DenomSums", spec := "denomSums", unfollowed := true, recurses := true, apart := false }
def DenomSumsSaid : Prop := denomSumsRow.holds Try.pinned (OpenSpec.ofChange denomSumsSpec)

/-- ITS FALSE NEIGHBOUR: 'it returns false'. Refute it at one input. -/
def denomSumsWrong : ChangeSpec := { name := "denomSums", fn := fun _ => fun
  | [d1, d2, d3] => { results := [.lit (.bool false)], args := [d1, d2, d3] }
  | _ => none }
def DenomSumsWrongFalsely : Prop := denomSumsRow.holds Try.pinned (OpenSpec.ofChange denomSumsWrong)

/- THE SECOND FORM. 'bulk': how many values and letters a reading holds, each counted each time it is reached (what is shared counts as often as it is met; a slice's spare places count too). A statement '..UptoSaid' is the law's where the arguments, and the package variables that the reading takes, are together of bulk at most 1048576: NARROWER than '..Said'. Prove '..Said' where nothing that the law and all that it calls make is longer than what came in: it says more and counts as full. Else prove '..UptoSaid'. A law counts once. -/
mutual
def uptoBulk {H : Type} : DataW H → Nat
  | .lit (.string bytes) => bytes.length + 1
  | .lit _ => 1
  | .nil => 1
  | .ptr d => uptoBulk d + 1
  | .slice elems spare => uptoBulkAll elems + uptoBulkAll spare + 1
  | .agg parts => uptoBulkAll parts + 1
  | .iface _ d => uptoBulk d + 1
  | .map entries => uptoBulkEntries entries + 1
  | .held _ => 1
def uptoBulkAll {H : Type} : List (DataW H) → Nat
  | [] => 0
  | d :: r => uptoBulk d + uptoBulkAll r
def uptoBulkEntries {H : Type} : List (Lit × DataW H) → Nat
  | [] => 0
  | x :: r => uptoBulkEntry x + uptoBulkEntries r
def uptoBulkEntry {H : Type} : Lit × DataW H → Nat
  | (.string bytes, d) => bytes.length + uptoBulk d + 1
  | (_, d) => uptoBulk d + 1
 end
def uptoSmall : (H : Type) → List (DataW H) → Bool := fun _ ds => decide (uptoBulkAll ds ≤ 1048576)
def OpenSpec.upto (s : _root_.Go.ChangeSpec) : _root_.Go.OpenSpec := { _root_.Go.OpenSpec.ofChange s with cond := some uptoSmall }

/-- 'specielaw28.DenomPays', WHERE WHAT IT READS IS OF BULK AT MOST 1048576: true; the input reads as it did. -/
def denomPaysUptoRow : OpenClaim := { program := "ytndjbfdbngkkiaa", sum := "743660a05355ebc15c7ff26d885726e4c9874c984a1e63e90f964195b11451b5", func := "specie/specielaw28.DenomPays", spec := "denomPays", unfollowed := true, recurses := true, apart := false, narrowed := true }
def DenomPaysUptoSaid : Prop := denomPaysUptoRow.holds Try.pinned (OpenSpec.upto denomPaysSpec)

/-- 'specielaw28.DenomEnough', WHERE WHAT IT READS IS OF BULK AT MOST 1048576: true; the input reads as it did. -/
def denomEnoughUptoRow : OpenClaim := { program := "ytndjbfdbngkkiaa", sum := "743660a05355ebc15c7ff26d885726e4c9874c984a1e63e90f964195b11451b5", func := "specie/specielaw28.DenomEnough", spec := "denomEnough", unfollowed := true, recurses := true, apart := false, narrowed := true }
def DenomEnoughUptoSaid : Prop := denomEnoughUptoRow.holds Try.pinned (OpenSpec.upto denomEnoughSpec)

/-- 'specielaw28.DenomExact', WHERE WHAT IT READS IS OF BULK AT MOST 1048576: true; the input reads as it did. -/
def denomExactUptoRow : OpenClaim := { program := "ytndjbfdbngkkiaa", sum := "743660a05355ebc15c7ff26d885726e4c9874c984a1e63e90f964195b11451b5", func := "specie/specielaw28.DenomExact", spec := "denomExact", unfollowed := true, recurses := true, apart := false, narrowed := true }
def DenomExactUptoSaid : Prop := denomExactUptoRow.holds Try.pinned (OpenSpec.upto denomExactSpec)

/-- 'specielaw28.DenomSums', WHERE WHAT IT READS IS OF BULK AT MOST 1048576: true; the input reads as it did. -/
def denomSumsUptoRow : OpenClaim := { program := "ytndjbfdbngkkiaa", sum := "743660a05355ebc15c7ff26d885726e4c9874c984a1e63e90f964195b11451b5", func := "specie/specielaw28.DenomSums", spec := "denomSums", unfollowed := true, recurses := true, apart := false, narrowed := true }
def DenomSumsUptoSaid : Prop := denomSumsUptoRow.holds Try.pinned (OpenSpec.upto denomSumsSpec)

end Rows
end Go.Proofs.Ytndjbfdbngkkiaa

/-
  No cell of these rows narrows 'for every input' (looked for: loops, veiled, ifaces, maps, wideKeys, modest, calm, conditions, laid).
  DERIVED. THE GIVEN ROWS OF THIS SEAT. 3 by the template 'for every input the law returns true; each argument reads behind the call as it read before'; 0 by the template 'total and deterministic' (their statements: YtdidhdgdklkgeaaTotals.lean).
  GIVEN WITH THE SEED: the statements are not yours to turn. If you find one false, say at which input.
  Laid BY PROGRAM, IN A SANDBOX (cutbox-rows.mjs): the forced cells as the released guide's own fill.sh prints them over the translation 1cbb0891dbc90528… (all of the seat's roots in one cut). By AI agents, Wed Nov 11 2026. No macro, syntax, notation, axiom, sorry.
-/
import Derived.Test.YtdidhdgdklkgeaaChecked
import GoSem.Claim
import GoSem.ClaimJoined
import GoSem.ClaimMapViews
import Derived.JoinedTies
import Derived.KernelRfl
namespace Go.Proofs.Ytdidhdgdklkgeaa
/- THE CELL 'sum', in the pinned program and in every row, IS THE sha256 OF THE DUMP (.gsa) THAT YtdidhdgdklkgeaaProg.lean LOADS. Nothing in Lean hashes anything: it is a label: what it is worth is what the hold of that sum in a sandbox is worth. -/
noncomputable def Try.pinned : Pinned := { name := "ytdidhdgdklkgeaa", sum := "1cbb0891dbc9052896641c8bcffd1410e96718f646859f4477a40fc95c58b4d3", checked := Try.checked }
namespace Rows
def none {H : Type} : Left H := { results := [], args := [] }

/-- 'specielaw47.MerchantAsks': WHATEVER THE INPUT: true; the input reads as it did. -/
def merchantAsksSpec : ChangeSpec := { name := "merchantAsks", fn := fun _ => fun
  | [d1, d2] => { results := [.lit (.bool true)], args := [d1, d2] }
  | _ => none }
def merchantAsksRow : OpenClaim := { program := "ytdidhdgdklkgeaa", sum := "1cbb0891dbc9052896641c8bcffd1410e96718f646859f4477a40fc95c58b4d3", func := "specie/specielaw47.MerchantAsks", spec := "merchantAsks", unfollowed := true, recurses := true, apart := false }
def MerchantAsksSaid : Prop := merchantAsksRow.holds Try.pinned (OpenSpec.ofChange merchantAsksSpec)

/-- ITS FALSE NEIGHBOUR: 'it returns false'. Refute it at one input. -/
def merchantAsksWrong : ChangeSpec := { name := "merchantAsks", fn := fun _ => fun
  | [d1, d2] => { results := [.lit (.bool false)], args := [d1, d2] }
  | _ => none }
def MerchantAsksWrongFalsely : Prop := merchantAsksRow.holds Try.pinned (OpenSpec.ofChange merchantAsksWrong)

/-- 'specielaw47.MerchantInvoices': WHATEVER THE INPUT: true; the input reads as it did. -/
def merchantInvoicesSpec : ChangeSpec := { name := "merchantInvoices", fn := fun _ => fun
  | [d1, d2, d3, d4] => { results := [.lit (.bool true)], args := [d1, d2, d3, d4] }
  | _ => none }
def merchantInvoicesRow : OpenClaim := { program := "ytdidhdgdklkgeaa", sum := "1cbb0891dbc9052896641c8bcffd1410e96718f646859f4477a40fc95c58b4d3", func := "specie/specielaw47.MerchantInvoices", spec := "merchantInvoices", unfollowed := true, recurses := true, apart := false }
def MerchantInvoicesSaid : Prop := merchantInvoicesRow.holds Try.pinned (OpenSpec.ofChange merchantInvoicesSpec)

/-- ITS FALSE NEIGHBOUR: 'it returns false'. Refute it at one input. -/
def merchantInvoicesWrong : ChangeSpec := { name := "merchantInvoices", fn := fun _ => fun
  | [d1, d2, d3, d4] => { results := [.lit (.bool false)], args := [d1, d2, d3, d4] }
  | _ => none }
def MerchantInvoicesWrongFalsely : Prop := merchantInvoicesRow.holds Try.pinned (OpenSpec.ofChange merchantInvoicesWrong)

/-- 'specielaw47.MerchantForms': WHATEVER THE INPUT: true; the input reads as it did. -/
def merchantFormsSpec : ChangeSpec := { name := "merchantForms", fn := fun _ => fun
  | [d1, d2, d3] => { results := [.lit (.bool true)], args := [d1, d2, d3] }
  | _ => none }
def merchantFormsRow : OpenClaim := { program := "ytdidhdgdklkgeaa", sum := "1cbb0891dbc9052896641c8bcffd1410e96718f646859f4477a40fc95c58b4d3", func := "specie/specielaw47.MerchantForms", spec := "merchantForms", inPlace := ["slices.overlaps[int]"], unfollowed := true, recurses := true, apart := false }
def MerchantFormsSaid : Prop := merchantFormsRow.holds Try.pinned (OpenSpec.ofChange merchantFormsSpec)

/-- ITS FALSE NEIGHBOUR: 'it returns false'. Refute it at one input. -/
def merchantFormsWrong : ChangeSpec := { name := "merchantForms", fn := fun _ => fun
  | [d1, d2, d3] => { results := [.lit (.bool false)], args := [d1, d2, d3] }
  | _ => none }
def MerchantFormsWrongFalsely : Prop := merchantFormsRow.holds Try.pinned (OpenSpec.ofChange merchantFormsWrong)

/- THE SECOND FORM. 'bulk': how many values and letters a reading holds, each counted each time it is reached (what is shared counts as often as it is met; a slice's spare places count too). A statement '..UptoSaid' is the law's where the arguments, and the package variables that the reading takes, are together of bulk at most 1048576: NARROWER than '..Said'. Prove '..Said' where nothing that the law and all that it calls make is longer than what came in: it says more and counts as full. Else prove '..UptoSaid'. A law counts once. -/
mutual
def uptoBulk {H : Type} : DataW H → Nat
  | .lit (.string bytes) => bytes.length + 1
  | .lit _ => 1
  | .nil => 1
  | .ptr d => uptoBulk d + 1
  | .slice elems spare => uptoBulkAll elems + uptoBulkAll spare + 1
  | .agg parts => uptoBulkAll parts + 1
  | .iface _ d => uptoBulk d + 1
  | .map entries => uptoBulkEntries entries + 1
  | .held _ => 1
def uptoBulkAll {H : Type} : List (DataW H) → Nat
  | [] => 0
  | d :: r => uptoBulk d + uptoBulkAll r
def uptoBulkEntries {H : Type} : List (Lit × DataW H) → Nat
  | [] => 0
  | x :: r => uptoBulkEntry x + uptoBulkEntries r
def uptoBulkEntry {H : Type} : Lit × DataW H → Nat
  | (.string bytes, d) => bytes.length + uptoBulk d + 1
  | (_, d) => uptoBulk d + 1
 end
def uptoSmall : (H : Type) → List (DataW H) → Bool := fun _ ds => decide (uptoBulkAll ds ≤ 1048576)
def OpenSpec.upto (s : _root_.Go.ChangeSpec) : _root_.Go.OpenSpec := { _root_.Go.OpenSpec.ofChange s with cond := some uptoSmall }

/-- 'specielaw47.MerchantAsks', WHERE WHAT IT READS IS OF BULK AT MOST 1048576: true; the input reads as it did. -/
def merchantAsksUptoRow : OpenClaim := { program := "ytdidhdgdklkgeaa", sum := "1cbb0891dbc9052896641c8bcffd1410e96718f646859f4477a40fc95c58b4d3", func := "specie/specielaw47.MerchantAsks", spec := "merchantAsks", unfollowed := true, recurses := true, apart := false, narrowed := true }
def MerchantAsksUptoSaid : Prop := merchantAsksUptoRow.holds Try.pinned (OpenSpec.upto merchantAsksSpec)

/-- 'specielaw47.MerchantInvoices', WHERE WHAT IT READS IS OF BULK AT MOST 1048576: true; the input reads as it did. -/
def merchantInvoicesUptoRow : OpenClaim := { program := "ytdidhdgdklkgeaa", sum := "1cbb0891dbc9052896641c8bcffd1410e96718f646859f4477a40fc95c58b4d3", func := "specie/specielaw47.MerchantInvoices", spec := "merchantInvoices", unfollowed := true, recurses := true, apart := false, narrowed := true }
def MerchantInvoicesUptoSaid : Prop := merchantInvoicesUptoRow.holds Try.pinned (OpenSpec.upto merchantInvoicesSpec)

/-- 'specielaw47.MerchantForms', WHERE WHAT IT READS IS OF BULK AT MOST 1048576: true; the input reads as it did. -/
def merchantFormsUptoRow : OpenClaim := { program := "ytdidhdgdklkgeaa", sum := "1cbb0891dbc9052896641c8bcffd1410e96718f646859f4477a40fc95c58b4d3", func := "specie/specielaw47.MerchantForms", spec := "merchantForms", inPlace := ["slices.overlaps[int]"], unfollowed := true, recurses := true, apart := false, narrowed := true }
def MerchantFormsUptoSaid : Prop := merchantFormsUptoRow.holds Try.pinned (OpenSpec.upto merchantFormsSpec)

end Rows
end Go.Proofs.Ytdidhdgdklkgeaa

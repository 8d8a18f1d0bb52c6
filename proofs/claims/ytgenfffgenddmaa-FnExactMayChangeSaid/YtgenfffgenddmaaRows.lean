/-
  No cell of these rows narrows 'for every input' (looked for: loops, veiled, ifaces, maps, wideKeys, modest, calm, conditions, laid).
  DERIVED. THE GIVEN ROWS OF THIS SEAT. 2 by the template 'for every input the law returns true; each argument reads behind the call as it read before'; 0 by the template 'total and deterministic' (their statements: YtgenfffgenddmaaTotals.lean).
  GIVEN WITH THE SEED: the statements are not yours to turn. If you find one false, say at which input.
  Laid BY PROGRAM, IN A SANDBOX (cutbox-rows.mjs): the forced cells as the released guide's own fill.sh prints them over the translation 9ca265f0ada77751… (all of the seat's roots in one cut). By AI agents, Wed Nov 11 2026. No macro, syntax, notation, axiom, sorry.
-/
import Derived.Test.YtgenfffgenddmaaChecked
import GoSem.Claim
import GoSem.ClaimJoined
import GoSem.ClaimMapViews
import Derived.JoinedTies
import Derived.KernelRfl
namespace Go.Proofs.Ytgenfffgenddmaa
/- THE CELL 'sum', in the pinned program and in every row, IS THE sha256 OF THE DUMP (.gsa) THAT YtgenfffgenddmaaProg.lean LOADS. Nothing in Lean hashes anything: it is a label: what it is worth is what the hold of that sum in a sandbox is worth. -/
noncomputable def Try.pinned : Pinned := { name := "ytgenfffgenddmaa", sum := "9ca265f0ada7775143d54a0e93fcc087e1eaecc59cf12eff8bc1b1a8b46c9bd0", checked := Try.checked }
namespace Rows
def none {H : Type} : Left H := { results := [], args := [] }

/-- 'laws.FnExactIsModeTable': WHATEVER THE INPUT: true; the input reads as it did. -/
def fnExactIsModeTableSpec : ChangeSpec := { name := "fnExactIsModeTable", fn := fun _ => fun
  | [d] => { results := [.lit (.bool true)], args := [d] }
  | _ => none }
def fnExactIsModeTableRow : OpenClaim := { program := "ytgenfffgenddmaa", sum := "9ca265f0ada7775143d54a0e93fcc087e1eaecc59cf12eff8bc1b1a8b46c9bd0", func := "loop.example/g00833/laws.FnExactIsModeTable", spec := "fnExactIsModeTable", apart := false }
def FnExactIsModeTableSaid : Prop := fnExactIsModeTableRow.holds Try.pinned (OpenSpec.ofChange fnExactIsModeTableSpec)

/-- ITS FALSE NEIGHBOUR: 'it returns false'. Refute it at one input. -/
def fnExactIsModeTableWrong : ChangeSpec := { name := "fnExactIsModeTable", fn := fun _ => fun
  | [d] => { results := [.lit (.bool false)], args := [d] }
  | _ => none }
def FnExactIsModeTableWrongFalsely : Prop := fnExactIsModeTableRow.holds Try.pinned (OpenSpec.ofChange fnExactIsModeTableWrong)

/-- 'laws.FnExactMayChange': WHATEVER THE INPUT: true; the input reads as it did. -/
def fnExactMayChangeSpec : ChangeSpec := { name := "fnExactMayChange", fn := fun _ => fun
  | [d1, d2, d3] => { results := [.lit (.bool true)], args := [d1, d2, d3] }
  | _ => none }
def fnExactMayChangeRow : OpenClaim := { program := "ytgenfffgenddmaa", sum := "9ca265f0ada7775143d54a0e93fcc087e1eaecc59cf12eff8bc1b1a8b46c9bd0", func := "loop.example/g00833/laws.FnExactMayChange", spec := "fnExactMayChange", apart := false }
def FnExactMayChangeSaid : Prop := fnExactMayChangeRow.holds Try.pinned (OpenSpec.ofChange fnExactMayChangeSpec)

/-- ITS FALSE NEIGHBOUR: 'it returns false'. Refute it at one input. -/
def fnExactMayChangeWrong : ChangeSpec := { name := "fnExactMayChange", fn := fun _ => fun
  | [d1, d2, d3] => { results := [.lit (.bool false)], args := [d1, d2, d3] }
  | _ => none }
def FnExactMayChangeWrongFalsely : Prop := fnExactMayChangeRow.holds Try.pinned (OpenSpec.ofChange fnExactMayChangeWrong)

/- THE SECOND FORM. 'bulk': how many values and letters a reading holds, each counted each time it is reached (what is shared counts as often as it is met; a slice's spare places count too). A statement '..UptoSaid' is the law's where the arguments, and the package variables that the reading takes, are together of bulk at most 1048576: NARROWER than '..Said'. Prove '..Said' where nothing that the law and all that it calls make is longer than what came in: it says more and counts as full. Else prove '..UptoSaid'. A law counts once. -/
mutual
def uptoBulk {H : Type} : DataW H → Nat
  | .lit (.string bytes) => bytes.length + 1
  | .lit _ => 1
  | .nil => 1
  | .ptr d => uptoBulk d + 1
  | .slice elems spare => uptoBulkAll elems + uptoBulkAll spare + 1
  | .agg parts => uptoBulkAll parts + 1
  | .iface _ d => uptoBulk d + 1
  | .map entries => uptoBulkEntries entries + 1
  | .held _ => 1
def uptoBulkAll {H : Type} : List (DataW H) → Nat
  | [] => 0
  | d :: r => uptoBulk d + uptoBulkAll r
def uptoBulkEntries {H : Type} : List (Lit × DataW H) → Nat
  | [] => 0
  | x :: r => uptoBulkEntry x + uptoBulkEntries r
def uptoBulkEntry {H : Type} : Lit × DataW H → Nat
  | (.string bytes, d) => bytes.length + uptoBulk d + 1
  | (_, d) => uptoBulk d + 1
 end
def uptoSmall : (H : Type) → List (DataW H) → Bool := fun _ ds => decide (uptoBulkAll ds ≤ 1048576)
def OpenSpec.upto (s : _root_.Go.ChangeSpec) : _root_.Go.OpenSpec := { _root_.Go.OpenSpec.ofChange s with cond := some uptoSmall }

/-- 'laws.FnExactIsModeTable', WHERE WHAT IT READS IS OF BULK AT MOST 1048576: true; the input reads as it did. -/
def fnExactIsModeTableUptoRow : OpenClaim := { program := "ytgenfffgenddmaa", sum := "9ca265f0ada7775143d54a0e93fcc087e1eaecc59cf12eff8bc1b1a8b46c9bd0", func := "loop.example/g00833/laws.FnExactIsModeTable", spec := "fnExactIsModeTable", apart := false, narrowed := true }
def FnExactIsModeTableUptoSaid : Prop := fnExactIsModeTableUptoRow.holds Try.pinned (OpenSpec.upto fnExactIsModeTableSpec)

/-- 'laws.FnExactMayChange', WHERE WHAT IT READS IS OF BULK AT MOST 1048576: true; the input reads as it did. -/
def fnExactMayChangeUptoRow : OpenClaim := { program := "ytgenfffgenddmaa", sum := "9ca265f0ada7775143d54a0e93fcc087e1eaecc59cf12eff8bc1b1a8b46c9bd0", func := "loop.example/g00833/laws.FnExactMayChange", spec := "fnExactMayChange", apart := false, narrowed := true }
def FnExactMayChangeUptoSaid : Prop := fnExactMayChangeUptoRow.holds Try.pinned (OpenSpec.upto fnExactMayChangeSpec)

end Rows
end Go.Proofs.Ytgenfffgenddmaa

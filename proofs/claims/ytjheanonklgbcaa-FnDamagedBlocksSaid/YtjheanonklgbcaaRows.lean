/-
  No cell of these rows narrows 'for every input' (looked for: loops, veiled, ifaces, maps, wideKeys, modest, calm, conditions, laid).
  DERIVED. THE GIVEN ROWS OF THIS SEAT. 11 by the template 'for every input the law returns true; each argument reads behind the call as it read before'; 0 by the template 'total and deterministic' (their statements: YtjheanonklgbcaaTotals.lean).
  GIVEN WITH THE SEED: the statements are not yours to turn. If you find one false, say at which input.
  Laid BY PROGRAM, IN A SANDBOX (cutbox-rows.mjs): the forced cells as the released guide's own fill.sh prints them over the translation e77e11d04cce18e7… (all of the seat's roots in one cut). By AI agents, Wed Nov 11 2026. No macro, syntax, notation, axiom, sorry.
-/
import Derived.Test.YtjheanonklgbcaaChecked
import GoSem.Claim
import GoSem.ClaimJoined
import GoSem.ClaimMapViews
import Derived.JoinedTies
import Derived.KernelRfl
namespace Go.Proofs.Ytjheanonklgbcaa
/- THE CELL 'sum', in the pinned program and in every row, IS THE sha256 OF THE DUMP (.gsa) THAT YtjheanonklgbcaaProg.lean LOADS. Nothing in Lean hashes anything: it is a label: what it is worth is what the hold of that sum in a sandbox is worth. -/
noncomputable def Try.pinned : Pinned := { name := "ytjheanonklgbcaa", sum := "e77e11d04cce18e747c19b2b52251a61fc9b5d52ab5da62feeac6abf99f6ca9a", checked := Try.checked }
namespace Rows
def none {H : Type} : Left H := { results := [], args := [] }

/-- 'laws.FnExactBlockAt': WHATEVER THE INPUT: true; the input reads as it did. -/
def fnExactBlockAtSpec : ChangeSpec := { name := "fnExactBlockAt", fn := fun _ => fun
  | [d1, d2] => { results := [.lit (.bool true)], args := [d1, d2] }
  | _ => none }
def fnExactBlockAtRow : OpenClaim := { program := "ytjheanonklgbcaa", sum := "e77e11d04cce18e747c19b2b52251a61fc9b5d52ab5da62feeac6abf99f6ca9a", func := "loop.example/g00833/laws.FnExactBlockAt", spec := "fnExactBlockAt", unfollowed := true, recurses := true, apart := false }
def FnExactBlockAtSaid : Prop := fnExactBlockAtRow.holds Try.pinned (OpenSpec.ofChange fnExactBlockAtSpec)

/-- ITS FALSE NEIGHBOUR: 'it returns false'. Refute it at one input. -/
def fnExactBlockAtWrong : ChangeSpec := { name := "fnExactBlockAt", fn := fun _ => fun
  | [d1, d2] => { results := [.lit (.bool false)], args := [d1, d2] }
  | _ => none }
def FnExactBlockAtWrongFalsely : Prop := fnExactBlockAtRow.holds Try.pinned (OpenSpec.ofChange fnExactBlockAtWrong)

/-- 'laws.FnExactImageOf': WHATEVER THE INPUT: true; the input reads as it did. -/
def fnExactImageOfSpec : ChangeSpec := { name := "fnExactImageOf", fn := fun _ => fun
  | [d] => { results := [.lit (.bool true)], args := [d] }
  | _ => none }
def fnExactImageOfRow : OpenClaim := { program := "ytjheanonklgbcaa", sum := "e77e11d04cce18e747c19b2b52251a61fc9b5d52ab5da62feeac6abf99f6ca9a", func := "loop.example/g00833/laws.FnExactImageOf", spec := "fnExactImageOf", unfollowed := true, recurses := true, apart := false }
def FnExactImageOfSaid : Prop := fnExactImageOfRow.holds Try.pinned (OpenSpec.ofChange fnExactImageOfSpec)

/-- ITS FALSE NEIGHBOUR: 'it returns false'. Refute it at one input. -/
def fnExactImageOfWrong : ChangeSpec := { name := "fnExactImageOf", fn := fun _ => fun
  | [d] => { results := [.lit (.bool false)], args := [d] }
  | _ => none }
def FnExactImageOfWrongFalsely : Prop := fnExactImageOfRow.holds Try.pinned (OpenSpec.ofChange fnExactImageOfWrong)

/-- 'laws.FnExactDamagedBlocks': WHATEVER THE INPUT: true; the input reads as it did. -/
def fnExactDamagedBlocksSpec : ChangeSpec := { name := "fnExactDamagedBlocks", fn := fun _ => fun
  | [d] => { results := [.lit (.bool true)], args := [d] }
  | _ => none }
def fnExactDamagedBlocksRow : OpenClaim := { program := "ytjheanonklgbcaa", sum := "e77e11d04cce18e747c19b2b52251a61fc9b5d52ab5da62feeac6abf99f6ca9a", func := "loop.example/g00833/laws.FnExactDamagedBlocks", spec := "fnExactDamagedBlocks", unfollowed := true, recurses := true, apart := false }
def FnExactDamagedBlocksSaid : Prop := fnExactDamagedBlocksRow.holds Try.pinned (OpenSpec.ofChange fnExactDamagedBlocksSpec)

/-- ITS FALSE NEIGHBOUR: 'it returns false'. Refute it at one input. -/
def fnExactDamagedBlocksWrong : ChangeSpec := { name := "fnExactDamagedBlocks", fn := fun _ => fun
  | [d] => { results := [.lit (.bool false)], args := [d] }
  | _ => none }
def FnExactDamagedBlocksWrongFalsely : Prop := fnExactDamagedBlocksRow.holds Try.pinned (OpenSpec.ofChange fnExactDamagedBlocksWrong)

/-- 'laws.FnExactDataOfImage': WHATEVER THE INPUT: true; the input reads as it did. -/
def fnExactDataOfImageSpec : ChangeSpec := { name := "fnExactDataOfImage", fn := fun _ => fun
  | [d] => { results := [.lit (.bool true)], args := [d] }
  | _ => none }
def fnExactDataOfImageRow : OpenClaim := { program := "ytjheanonklgbcaa", sum := "e77e11d04cce18e747c19b2b52251a61fc9b5d52ab5da62feeac6abf99f6ca9a", func := "loop.example/g00833/laws.FnExactDataOfImage", spec := "fnExactDataOfImage", unfollowed := true, recurses := true, apart := false }
def FnExactDataOfImageSaid : Prop := fnExactDataOfImageRow.holds Try.pinned (OpenSpec.ofChange fnExactDataOfImageSpec)

/-- ITS FALSE NEIGHBOUR: 'it returns false'. Refute it at one input. -/
def fnExactDataOfImageWrong : ChangeSpec := { name := "fnExactDataOfImage", fn := fun _ => fun
  | [d] => { results := [.lit (.bool false)], args := [d] }
  | _ => none }
def FnExactDataOfImageWrongFalsely : Prop := fnExactDataOfImageRow.holds Try.pinned (OpenSpec.ofChange fnExactDataOfImageWrong)

/-- 'laws.FnImages': WHATEVER THE INPUT: true; the input reads as it did. -/
def fnImagesSpec : ChangeSpec := { name := "fnImages", fn := fun _ => fun
  | [d] => { results := [.lit (.bool true)], args := [d] }
  | _ => none }
def fnImagesRow : OpenClaim := { program := "ytjheanonklgbcaa", sum := "e77e11d04cce18e747c19b2b52251a61fc9b5d52ab5da62feeac6abf99f6ca9a", func := "loop.example/g00833/laws.FnImages", spec := "fnImages", unfollowed := true, recurses := true, apart := false }
def FnImagesSaid : Prop := fnImagesRow.holds Try.pinned (OpenSpec.ofChange fnImagesSpec)

/-- ITS FALSE NEIGHBOUR: 'it returns false'. Refute it at one input. -/
def fnImagesWrong : ChangeSpec := { name := "fnImages", fn := fun _ => fun
  | [d] => { results := [.lit (.bool false)], args := [d] }
  | _ => none }
def FnImagesWrongFalsely : Prop := fnImagesRow.holds Try.pinned (OpenSpec.ofChange fnImagesWrong)

/-- 'laws.FnDamagedBlocks': WHATEVER THE INPUT: true; the input reads as it did. -/
def fnDamagedBlocksSpec : ChangeSpec := { name := "fnDamagedBlocks", fn := fun _ => fun
  | [d] => { results := [.lit (.bool true)], args := [d] }
  | _ => none }
def fnDamagedBlocksRow : OpenClaim := { program := "ytjheanonklgbcaa", sum := "e77e11d04cce18e747c19b2b52251a61fc9b5d52ab5da62feeac6abf99f6ca9a", func := "loop.example/g00833/laws.FnDamagedBlocks", spec := "fnDamagedBlocks", unfollowed := true, recurses := true, apart := false }
def FnDamagedBlocksSaid : Prop := fnDamagedBlocksRow.holds Try.pinned (OpenSpec.ofChange fnDamagedBlocksSpec)

/-- ITS FALSE NEIGHBOUR: 'it returns false'. Refute it at one input. -/
def fnDamagedBlocksWrong : ChangeSpec := { name := "fnDamagedBlocks", fn := fun _ => fun
  | [d] => { results := [.lit (.bool false)], args := [d] }
  | _ => none }
def FnDamagedBlocksWrongFalsely : Prop := fnDamagedBlocksRow.holds Try.pinned (OpenSpec.ofChange fnDamagedBlocksWrong)

/-- 'laws.FnImagesRead': WHATEVER THE INPUT: true; the input reads as it did. -/
def fnImagesReadSpec : ChangeSpec := { name := "fnImagesRead", fn := fun _ => fun
  | [d] => { results := [.lit (.bool true)], args := [d] }
  | _ => none }
def fnImagesReadRow : OpenClaim := { program := "ytjheanonklgbcaa", sum := "e77e11d04cce18e747c19b2b52251a61fc9b5d52ab5da62feeac6abf99f6ca9a", func := "loop.example/g00833/laws.FnImagesRead", spec := "fnImagesRead", unfollowed := true, recurses := true, apart := false }
def FnImagesReadSaid : Prop := fnImagesReadRow.holds Try.pinned (OpenSpec.ofChange fnImagesReadSpec)

/-- ITS FALSE NEIGHBOUR: 'it returns false'. Refute it at one input. -/
def fnImagesReadWrong : ChangeSpec := { name := "fnImagesRead", fn := fun _ => fun
  | [d] => { results := [.lit (.bool false)], args := [d] }
  | _ => none }
def FnImagesReadWrongFalsely : Prop := fnImagesReadRow.holds Try.pinned (OpenSpec.ofChange fnImagesReadWrong)

/-- 'laws.FnAcknowledged': WHATEVER THE INPUT: true; the input reads as it did. -/
def fnAcknowledgedSpec : ChangeSpec := { name := "fnAcknowledged", fn := fun _ => fun
  | [d] => { results := [.lit (.bool true)], args := [d] }
  | _ => none }
def fnAcknowledgedRow : OpenClaim := { program := "ytjheanonklgbcaa", sum := "e77e11d04cce18e747c19b2b52251a61fc9b5d52ab5da62feeac6abf99f6ca9a", func := "loop.example/g00833/laws.FnAcknowledged", spec := "fnAcknowledged", apart := false }
def FnAcknowledgedSaid : Prop := fnAcknowledgedRow.holds Try.pinned (OpenSpec.ofChange fnAcknowledgedSpec)

/-- ITS FALSE NEIGHBOUR: 'it returns false'. Refute it at one input. -/
def fnAcknowledgedWrong : ChangeSpec := { name := "fnAcknowledged", fn := fun _ => fun
  | [d] => { results := [.lit (.bool false)], args := [d] }
  | _ => none }
def FnAcknowledgedWrongFalsely : Prop := fnAcknowledgedRow.holds Try.pinned (OpenSpec.ofChange fnAcknowledgedWrong)

/-- 'laws.FnCliques': WHATEVER THE INPUT: true; the input reads as it did. -/
def fnCliquesSpec : ChangeSpec := { name := "fnCliques", fn := fun _ => fun
  | [d] => { results := [.lit (.bool true)], args := [d] }
  | _ => none }
def fnCliquesRow : OpenClaim := { program := "ytjheanonklgbcaa", sum := "e77e11d04cce18e747c19b2b52251a61fc9b5d52ab5da62feeac6abf99f6ca9a", func := "loop.example/g00833/laws.FnCliques", spec := "fnCliques", apart := false }
def FnCliquesSaid : Prop := fnCliquesRow.holds Try.pinned (OpenSpec.ofChange fnCliquesSpec)

/-- ITS FALSE NEIGHBOUR: 'it returns false'. Refute it at one input. -/
def fnCliquesWrong : ChangeSpec := { name := "fnCliques", fn := fun _ => fun
  | [d] => { results := [.lit (.bool false)], args := [d] }
  | _ => none }
def FnCliquesWrongFalsely : Prop := fnCliquesRow.holds Try.pinned (OpenSpec.ofChange fnCliquesWrong)

/-- 'laws.FnAgreed': WHATEVER THE INPUT: true; the input reads as it did. -/
def fnAgreedSpec : ChangeSpec := { name := "fnAgreed", fn := fun _ => fun
  | [d] => { results := [.lit (.bool true)], args := [d] }
  | _ => none }
def fnAgreedRow : OpenClaim := { program := "ytjheanonklgbcaa", sum := "e77e11d04cce18e747c19b2b52251a61fc9b5d52ab5da62feeac6abf99f6ca9a", func := "loop.example/g00833/laws.FnAgreed", spec := "fnAgreed", apart := false }
def FnAgreedSaid : Prop := fnAgreedRow.holds Try.pinned (OpenSpec.ofChange fnAgreedSpec)

/-- ITS FALSE NEIGHBOUR: 'it returns false'. Refute it at one input. -/
def fnAgreedWrong : ChangeSpec := { name := "fnAgreed", fn := fun _ => fun
  | [d] => { results := [.lit (.bool false)], args := [d] }
  | _ => none }
def FnAgreedWrongFalsely : Prop := fnAgreedRow.holds Try.pinned (OpenSpec.ofChange fnAgreedWrong)

/-- 'laws.FnVectors': WHATEVER THE INPUT: true; the input reads as it did. -/
def fnVectorsSpec : ChangeSpec := { name := "fnVectors", fn := fun _ => fun
  | [d] => { results := [.lit (.bool true)], args := [d] }
  | _ => none }
def fnVectorsRow : OpenClaim := { program := "ytjheanonklgbcaa", sum := "e77e11d04cce18e747c19b2b52251a61fc9b5d52ab5da62feeac6abf99f6ca9a", func := "loop.example/g00833/laws.FnVectors", spec := "fnVectors", apart := false }
def FnVectorsSaid : Prop := fnVectorsRow.holds Try.pinned (OpenSpec.ofChange fnVectorsSpec)

/-- ITS FALSE NEIGHBOUR: 'it returns false'. Refute it at one input. -/
def fnVectorsWrong : ChangeSpec := { name := "fnVectors", fn := fun _ => fun
  | [d] => { results := [.lit (.bool false)], args := [d] }
  | _ => none }
def FnVectorsWrongFalsely : Prop := fnVectorsRow.holds Try.pinned (OpenSpec.ofChange fnVectorsWrong)

/- THE SECOND FORM. 'bulk': how many values and letters a reading holds, each counted each time it is reached (what is shared counts as often as it is met; a slice's spare places count too). A statement '..UptoSaid' is the law's where the arguments, and the package variables that the reading takes, are together of bulk at most 1048576: NARROWER than '..Said'. Prove '..Said' where nothing that the law and all that it calls make is longer than what came in: it says more and counts as full. Else prove '..UptoSaid'. A law counts once. -/
mutual
def uptoBulk {H : Type} : DataW H → Nat
  | .lit (.string bytes) => bytes.length + 1
  | .lit _ => 1
  | .nil => 1
  | .ptr d => uptoBulk d + 1
  | .slice elems spare => uptoBulkAll elems + uptoBulkAll spare + 1
  | .agg parts => uptoBulkAll parts + 1
  | .iface _ d => uptoBulk d + 1
  | .map entries => uptoBulkEntries entries + 1
  | .held _ => 1
def uptoBulkAll {H : Type} : List (DataW H) → Nat
  | [] => 0
  | d :: r => uptoBulk d + uptoBulkAll r
def uptoBulkEntries {H : Type} : List (Lit × DataW H) → Nat
  | [] => 0
  | x :: r => uptoBulkEntry x + uptoBulkEntries r
def uptoBulkEntry {H : Type} : Lit × DataW H → Nat
  | (.string bytes, d) => bytes.length + uptoBulk d + 1
  | (_, d) => uptoBulk d + 1
 end
def uptoSmall : (H : Type) → List (DataW H) → Bool := fun _ ds => decide (uptoBulkAll ds ≤ 1048576)
def OpenSpec.upto (s : _root_.Go.ChangeSpec) : _root_.Go.OpenSpec := { _root_.Go.OpenSpec.ofChange s with cond := some uptoSmall }

/-- 'laws.FnExactBlockAt', WHERE WHAT IT READS IS OF BULK AT MOST 1048576: true; the input reads as it did. -/
def fnExactBlockAtUptoRow : OpenClaim := { program := "ytjheanonklgbcaa", sum := "e77e11d04cce18e747c19b2b52251a61fc9b5d52ab5da62feeac6abf99f6ca9a", func := "loop.example/g00833/laws.FnExactBlockAt", spec := "fnExactBlockAt", unfollowed := true, recurses := true, apart := false, narrowed := true }
def FnExactBlockAtUptoSaid : Prop := fnExactBlockAtUptoRow.holds Try.pinned (OpenSpec.upto fnExactBlockAtSpec)

/-- 'laws.FnExactImageOf', WHERE WHAT IT READS IS OF BULK AT MOST 1048576: true; the input reads as it did. -/
def fnExactImageOfUptoRow : OpenClaim := { program := "ytjheanonklgbcaa", sum := "e77e11d04cce18e747c19b2b52251a61fc9b5d52ab5da62feeac6abf99f6ca9a", func := "loop.example/g00833/laws.FnExactImageOf", spec := "fnExactImageOf", unfollowed := true, recurses := true, apart := false, narrowed := true }
def FnExactImageOfUptoSaid : Prop := fnExactImageOfUptoRow.holds Try.pinned (OpenSpec.upto fnExactImageOfSpec)

/-- 'laws.FnExactDamagedBlocks', WHERE WHAT IT READS IS OF BULK AT MOST 1048576: true; the input reads as it did. -/
def fnExactDamagedBlocksUptoRow : OpenClaim := { program := "ytjheanonklgbcaa", sum := "e77e11d04cce18e747c19b2b52251a61fc9b5d52ab5da62feeac6abf99f6ca9a", func := "loop.example/g00833/laws.FnExactDamagedBlocks", spec := "fnExactDamagedBlocks", unfollowed := true, recurses := true, apart := false, narrowed := true }
def FnExactDamagedBlocksUptoSaid : Prop := fnExactDamagedBlocksUptoRow.holds Try.pinned (OpenSpec.upto fnExactDamagedBlocksSpec)

/-- 'laws.FnExactDataOfImage', WHERE WHAT IT READS IS OF BULK AT MOST 1048576: true; the input reads as it did. -/
def fnExactDataOfImageUptoRow : OpenClaim := { program := "ytjheanonklgbcaa", sum := "e77e11d04cce18e747c19b2b52251a61fc9b5d52ab5da62feeac6abf99f6ca9a", func := "loop.example/g00833/laws.FnExactDataOfImage", spec := "fnExactDataOfImage", unfollowed := true, recurses := true, apart := false, narrowed := true }
def FnExactDataOfImageUptoSaid : Prop := fnExactDataOfImageUptoRow.holds Try.pinned (OpenSpec.upto fnExactDataOfImageSpec)

/-- 'laws.FnImages', WHERE WHAT IT READS IS OF BULK AT MOST 1048576: true; the input reads as it did. -/
def fnImagesUptoRow : OpenClaim := { program := "ytjheanonklgbcaa", sum := "e77e11d04cce18e747c19b2b52251a61fc9b5d52ab5da62feeac6abf99f6ca9a", func := "loop.example/g00833/laws.FnImages", spec := "fnImages", unfollowed := true, recurses := true, apart := false, narrowed := true }
def FnImagesUptoSaid : Prop := fnImagesUptoRow.holds Try.pinned (OpenSpec.upto fnImagesSpec)

/-- 'laws.FnDamagedBlocks', WHERE WHAT IT READS IS OF BULK AT MOST 1048576: true; the input reads as it did. -/
def fnDamagedBlocksUptoRow : OpenClaim := { program := "ytjheanonklgbcaa", sum := "e77e11d04cce18e747c19b2b52251a61fc9b5d52ab5da62feeac6abf99f6ca9a", func := "loop.example/g00833/laws.FnDamagedBlocks", spec := "fnDamagedBlocks", unfollowed := true, recurses := true, apart := false, narrowed := true }
def FnDamagedBlocksUptoSaid : Prop := fnDamagedBlocksUptoRow.holds Try.pinned (OpenSpec.upto fnDamagedBlocksSpec)

/-- 'laws.FnImagesRead', WHERE WHAT IT READS IS OF BULK AT MOST 1048576: true; the input reads as it did. -/
def fnImagesReadUptoRow : OpenClaim := { program := "ytjheanonklgbcaa", sum := "e77e11d04cce18e747c19b2b52251a61fc9b5d52ab5da62feeac6abf99f6ca9a", func := "loop.example/g00833/laws.FnImagesRead", spec := "fnImagesRead", unfollowed := true, recurses := true, apart := false, narrowed := true }
def FnImagesReadUptoSaid : Prop := fnImagesReadUptoRow.holds Try.pinned (OpenSpec.upto fnImagesReadSpec)

/-- 'laws.FnAcknowledged', WHERE WHAT IT READS IS OF BULK AT MOST 1048576: true; the input reads as it did. -/
def fnAcknowledgedUptoRow : OpenClaim := { program := "ytjheanonklgbcaa", sum := "e77e11d04cce18e747c19b2b52251a61fc9b5d52ab5da62feeac6abf99f6ca9a", func := "loop.example/g00833/laws.FnAcknowledged", spec := "fnAcknowledged", apart := false, narrowed := true }
def FnAcknowledgedUptoSaid : Prop := fnAcknowledgedUptoRow.holds Try.pinned (OpenSpec.upto fnAcknowledgedSpec)

/-- 'laws.FnCliques', WHERE WHAT IT READS IS OF BULK AT MOST 1048576: true; the input reads as it did. -/
def fnCliquesUptoRow : OpenClaim := { program := "ytjheanonklgbcaa", sum := "e77e11d04cce18e747c19b2b52251a61fc9b5d52ab5da62feeac6abf99f6ca9a", func := "loop.example/g00833/laws.FnCliques", spec := "fnCliques", apart := false, narrowed := true }
def FnCliquesUptoSaid : Prop := fnCliquesUptoRow.holds Try.pinned (OpenSpec.upto fnCliquesSpec)

/-- 'laws.FnAgreed', WHERE WHAT IT READS IS OF BULK AT MOST 1048576: true; the input reads as it did. -/
def fnAgreedUptoRow : OpenClaim := { program := "ytjheanonklgbcaa", sum := "e77e11d04cce18e747c19b2b52251a61fc9b5d52ab5da62feeac6abf99f6ca9a", func := "loop.example/g00833/laws.FnAgreed", spec := "fnAgreed", apart := false, narrowed := true }
def FnAgreedUptoSaid : Prop := fnAgreedUptoRow.holds Try.pinned (OpenSpec.upto fnAgreedSpec)

/-- 'laws.FnVectors', WHERE WHAT IT READS IS OF BULK AT MOST 1048576: true; the input reads as it did. -/
def fnVectorsUptoRow : OpenClaim := { program := "ytjheanonklgbcaa", sum := "e77e11d04cce18e747c19b2b52251a61fc9b5d52ab5da62feeac6abf99f6ca9a", func := "loop.example/g00833/laws.FnVectors", spec := "fnVectors", apart := false, narrowed := true }
def FnVectorsUptoSaid : Prop := fnVectorsUptoRow.holds Try.pinned (OpenSpec.upto fnVectorsSpec)

end Rows
end Go.Proofs.Ytjheanonklgbcaa

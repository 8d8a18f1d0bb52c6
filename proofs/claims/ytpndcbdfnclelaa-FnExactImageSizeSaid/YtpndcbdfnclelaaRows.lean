/-
  No cell of these rows narrows 'for every input' (looked for: loops, veiled, ifaces, maps, wideKeys, modest, calm, conditions, laid).
  DERIVED. THE GIVEN ROWS OF THIS SEAT. 12 by the template 'for every input the law returns true; each argument reads behind the call as it read before'; 0 by the template 'total and deterministic' (their statements: YtpndcbdfnclelaaTotals.lean).
  GIVEN WITH THE SEED: the statements are not yours to turn. If you find one false, say at which input.
  Laid BY PROGRAM, IN A SANDBOX (cutbox-rows.mjs): the forced cells as the released guide's own fill.sh prints them over the translation 639a167c0c818811… (all of the seat's roots in one cut). By AI agents, Wed Nov 11 2026. No macro, syntax, notation, axiom, sorry.
-/
import Derived.Test.YtpndcbdfnclelaaChecked
import GoSem.Claim
import GoSem.ClaimJoined
import GoSem.ClaimMapViews
import Derived.JoinedTies
import Derived.KernelRfl
namespace Go.Proofs.Ytpndcbdfnclelaa
/- THE CELL 'sum', in the pinned program and in every row, IS THE sha256 OF THE DUMP (.gsa) THAT YtpndcbdfnclelaaProg.lean LOADS. Nothing in Lean hashes anything: it is a label: what it is worth is what the hold of that sum in a sandbox is worth. -/
noncomputable def Try.pinned : Pinned := { name := "ytpndcbdfnclelaa", sum := "639a167c0c8188116b0940a686d05684de9f03e978a6f10911cacf0dcf745394", checked := Try.checked }
namespace Rows
def none {H : Type} : Left H := { results := [], args := [] }

/-- 'laws.FnExactKindOfHead': WHATEVER THE INPUT: true; the input reads as it did. -/
def fnExactKindOfHeadSpec : ChangeSpec := { name := "fnExactKindOfHead", fn := fun _ => fun
  | [d] => { results := [.lit (.bool true)], args := [d] }
  | _ => none }
def fnExactKindOfHeadRow : OpenClaim := { program := "ytpndcbdfnclelaa", sum := "639a167c0c8188116b0940a686d05684de9f03e978a6f10911cacf0dcf745394", func := "loop.example/g00833/laws.FnExactKindOfHead", spec := "fnExactKindOfHead", apart := false }
def FnExactKindOfHeadSaid : Prop := fnExactKindOfHeadRow.holds Try.pinned (OpenSpec.ofChange fnExactKindOfHeadSpec)

/-- ITS FALSE NEIGHBOUR: 'it returns false'. Refute it at one input. -/
def fnExactKindOfHeadWrong : ChangeSpec := { name := "fnExactKindOfHead", fn := fun _ => fun
  | [d] => { results := [.lit (.bool false)], args := [d] }
  | _ => none }
def FnExactKindOfHeadWrongFalsely : Prop := fnExactKindOfHeadRow.holds Try.pinned (OpenSpec.ofChange fnExactKindOfHeadWrong)

/-- 'laws.FnExactKindName': WHATEVER THE INPUT: true; the input reads as it did. -/
def fnExactKindNameSpec : ChangeSpec := { name := "fnExactKindName", fn := fun _ => fun
  | [d] => { results := [.lit (.bool true)], args := [d] }
  | _ => none }
def fnExactKindNameRow : OpenClaim := { program := "ytpndcbdfnclelaa", sum := "639a167c0c8188116b0940a686d05684de9f03e978a6f10911cacf0dcf745394", func := "loop.example/g00833/laws.FnExactKindName", spec := "fnExactKindName", apart := false }
def FnExactKindNameSaid : Prop := fnExactKindNameRow.holds Try.pinned (OpenSpec.ofChange fnExactKindNameSpec)

/-- ITS FALSE NEIGHBOUR: 'it returns false'. Refute it at one input. -/
def fnExactKindNameWrong : ChangeSpec := { name := "fnExactKindName", fn := fun _ => fun
  | [d] => { results := [.lit (.bool false)], args := [d] }
  | _ => none }
def FnExactKindNameWrongFalsely : Prop := fnExactKindNameRow.holds Try.pinned (OpenSpec.ofChange fnExactKindNameWrong)

/-- 'laws.FnExactImageSize': WHATEVER THE INPUT: true; the input reads as it did. -/
def fnExactImageSizeSpec : ChangeSpec := { name := "fnExactImageSize", fn := fun _ => fun
  | [d] => { results := [.lit (.bool true)], args := [d] }
  | _ => none }
def fnExactImageSizeRow : OpenClaim := { program := "ytpndcbdfnclelaa", sum := "639a167c0c8188116b0940a686d05684de9f03e978a6f10911cacf0dcf745394", func := "loop.example/g00833/laws.FnExactImageSize", spec := "fnExactImageSize", apart := false }
def FnExactImageSizeSaid : Prop := fnExactImageSizeRow.holds Try.pinned (OpenSpec.ofChange fnExactImageSizeSpec)

/-- ITS FALSE NEIGHBOUR: 'it returns false'. Refute it at one input. -/
def fnExactImageSizeWrong : ChangeSpec := { name := "fnExactImageSize", fn := fun _ => fun
  | [d] => { results := [.lit (.bool false)], args := [d] }
  | _ => none }
def FnExactImageSizeWrongFalsely : Prop := fnExactImageSizeRow.holds Try.pinned (OpenSpec.ofChange fnExactImageSizeWrong)

/-- 'laws.FnExactHasStateAndData': WHATEVER THE INPUT: true; the input reads as it did. -/
def fnExactHasStateAndDataSpec : ChangeSpec := { name := "fnExactHasStateAndData", fn := fun _ => fun
  | [d] => { results := [.lit (.bool true)], args := [d] }
  | _ => none }
def fnExactHasStateAndDataRow : OpenClaim := { program := "ytpndcbdfnclelaa", sum := "639a167c0c8188116b0940a686d05684de9f03e978a6f10911cacf0dcf745394", func := "loop.example/g00833/laws.FnExactHasStateAndData", spec := "fnExactHasStateAndData", apart := false }
def FnExactHasStateAndDataSaid : Prop := fnExactHasStateAndDataRow.holds Try.pinned (OpenSpec.ofChange fnExactHasStateAndDataSpec)

/-- ITS FALSE NEIGHBOUR: 'it returns false'. Refute it at one input. -/
def fnExactHasStateAndDataWrong : ChangeSpec := { name := "fnExactHasStateAndData", fn := fun _ => fun
  | [d] => { results := [.lit (.bool false)], args := [d] }
  | _ => none }
def FnExactHasStateAndDataWrongFalsely : Prop := fnExactHasStateAndDataRow.holds Try.pinned (OpenSpec.ofChange fnExactHasStateAndDataWrong)

/-- 'laws.FnExactBlockOfByte': WHATEVER THE INPUT: true; the input reads as it did. -/
def fnExactBlockOfByteSpec : ChangeSpec := { name := "fnExactBlockOfByte", fn := fun _ => fun
  | [d1, d2] => { results := [.lit (.bool true)], args := [d1, d2] }
  | _ => none }
def fnExactBlockOfByteRow : OpenClaim := { program := "ytpndcbdfnclelaa", sum := "639a167c0c8188116b0940a686d05684de9f03e978a6f10911cacf0dcf745394", func := "loop.example/g00833/laws.FnExactBlockOfByte", spec := "fnExactBlockOfByte", apart := false }
def FnExactBlockOfByteSaid : Prop := fnExactBlockOfByteRow.holds Try.pinned (OpenSpec.ofChange fnExactBlockOfByteSpec)

/-- ITS FALSE NEIGHBOUR: 'it returns false'. Refute it at one input. -/
def fnExactBlockOfByteWrong : ChangeSpec := { name := "fnExactBlockOfByte", fn := fun _ => fun
  | [d1, d2] => { results := [.lit (.bool false)], args := [d1, d2] }
  | _ => none }
def FnExactBlockOfByteWrongFalsely : Prop := fnExactBlockOfByteRow.holds Try.pinned (OpenSpec.ofChange fnExactBlockOfByteWrong)

/-- 'laws.FnExactBodySize': WHATEVER THE INPUT: true; the input reads as it did. -/
def fnExactBodySizeSpec : ChangeSpec := { name := "fnExactBodySize", fn := fun _ => fun
  | [d1, d2] => { results := [.lit (.bool true)], args := [d1, d2] }
  | _ => none }
def fnExactBodySizeRow : OpenClaim := { program := "ytpndcbdfnclelaa", sum := "639a167c0c8188116b0940a686d05684de9f03e978a6f10911cacf0dcf745394", func := "loop.example/g00833/laws.FnExactBodySize", spec := "fnExactBodySize", apart := false }
def FnExactBodySizeSaid : Prop := fnExactBodySizeRow.holds Try.pinned (OpenSpec.ofChange fnExactBodySizeSpec)

/-- ITS FALSE NEIGHBOUR: 'it returns false'. Refute it at one input. -/
def fnExactBodySizeWrong : ChangeSpec := { name := "fnExactBodySize", fn := fun _ => fun
  | [d1, d2] => { results := [.lit (.bool false)], args := [d1, d2] }
  | _ => none }
def FnExactBodySizeWrongFalsely : Prop := fnExactBodySizeRow.holds Try.pinned (OpenSpec.ofChange fnExactBodySizeWrong)

/-- 'laws.FnExactMembersOf': WHATEVER THE INPUT: true; the input reads as it did. -/
def fnExactMembersOfSpec : ChangeSpec := { name := "fnExactMembersOf", fn := fun _ => fun
  | [d] => { results := [.lit (.bool true)], args := [d] }
  | _ => none }
def fnExactMembersOfRow : OpenClaim := { program := "ytpndcbdfnclelaa", sum := "639a167c0c8188116b0940a686d05684de9f03e978a6f10911cacf0dcf745394", func := "loop.example/g00833/laws.FnExactMembersOf", spec := "fnExactMembersOf", apart := false }
def FnExactMembersOfSaid : Prop := fnExactMembersOfRow.holds Try.pinned (OpenSpec.ofChange fnExactMembersOfSpec)

/-- ITS FALSE NEIGHBOUR: 'it returns false'. Refute it at one input. -/
def fnExactMembersOfWrong : ChangeSpec := { name := "fnExactMembersOf", fn := fun _ => fun
  | [d] => { results := [.lit (.bool false)], args := [d] }
  | _ => none }
def FnExactMembersOfWrongFalsely : Prop := fnExactMembersOfRow.holds Try.pinned (OpenSpec.ofChange fnExactMembersOfWrong)

/-- 'laws.FnExactIsDescriptor': WHATEVER THE INPUT: true; the input reads as it did. -/
def fnExactIsDescriptorSpec : ChangeSpec := { name := "fnExactIsDescriptor", fn := fun _ => fun
  | [d] => { results := [.lit (.bool true)], args := [d] }
  | _ => none }
def fnExactIsDescriptorRow : OpenClaim := { program := "ytpndcbdfnclelaa", sum := "639a167c0c8188116b0940a686d05684de9f03e978a6f10911cacf0dcf745394", func := "loop.example/g00833/laws.FnExactIsDescriptor", spec := "fnExactIsDescriptor", apart := false }
def FnExactIsDescriptorSaid : Prop := fnExactIsDescriptorRow.holds Try.pinned (OpenSpec.ofChange fnExactIsDescriptorSpec)

/-- ITS FALSE NEIGHBOUR: 'it returns false'. Refute it at one input. -/
def fnExactIsDescriptorWrong : ChangeSpec := { name := "fnExactIsDescriptor", fn := fun _ => fun
  | [d] => { results := [.lit (.bool false)], args := [d] }
  | _ => none }
def FnExactIsDescriptorWrongFalsely : Prop := fnExactIsDescriptorRow.holds Try.pinned (OpenSpec.ofChange fnExactIsDescriptorWrong)

/-- 'laws.FnExactCliqueOf': WHATEVER THE INPUT: true; the input reads as it did. -/
def fnExactCliqueOfSpec : ChangeSpec := { name := "fnExactCliqueOf", fn := fun _ => fun
  | [d1, d2] => { results := [.lit (.bool true)], args := [d1, d2] }
  | _ => none }
def fnExactCliqueOfRow : OpenClaim := { program := "ytpndcbdfnclelaa", sum := "639a167c0c8188116b0940a686d05684de9f03e978a6f10911cacf0dcf745394", func := "loop.example/g00833/laws.FnExactCliqueOf", spec := "fnExactCliqueOf", apart := false }
def FnExactCliqueOfSaid : Prop := fnExactCliqueOfRow.holds Try.pinned (OpenSpec.ofChange fnExactCliqueOfSpec)

/-- ITS FALSE NEIGHBOUR: 'it returns false'. Refute it at one input. -/
def fnExactCliqueOfWrong : ChangeSpec := { name := "fnExactCliqueOf", fn := fun _ => fun
  | [d1, d2] => { results := [.lit (.bool false)], args := [d1, d2] }
  | _ => none }
def FnExactCliqueOfWrongFalsely : Prop := fnExactCliqueOfRow.holds Try.pinned (OpenSpec.ofChange fnExactCliqueOfWrong)

/-- 'laws.FnExactAgreedMembers': WHATEVER THE INPUT: true; the input reads as it did. -/
def fnExactAgreedMembersSpec : ChangeSpec := { name := "fnExactAgreedMembers", fn := fun _ => fun
  | [d] => { results := [.lit (.bool true)], args := [d] }
  | _ => none }
def fnExactAgreedMembersRow : OpenClaim := { program := "ytpndcbdfnclelaa", sum := "639a167c0c8188116b0940a686d05684de9f03e978a6f10911cacf0dcf745394", func := "loop.example/g00833/laws.FnExactAgreedMembers", spec := "fnExactAgreedMembers", apart := false }
def FnExactAgreedMembersSaid : Prop := fnExactAgreedMembersRow.holds Try.pinned (OpenSpec.ofChange fnExactAgreedMembersSpec)

/-- ITS FALSE NEIGHBOUR: 'it returns false'. Refute it at one input. -/
def fnExactAgreedMembersWrong : ChangeSpec := { name := "fnExactAgreedMembers", fn := fun _ => fun
  | [d] => { results := [.lit (.bool false)], args := [d] }
  | _ => none }
def FnExactAgreedMembersWrongFalsely : Prop := fnExactAgreedMembersRow.holds Try.pinned (OpenSpec.ofChange fnExactAgreedMembersWrong)

/-- 'laws.FnExactSealSize': WHATEVER THE INPUT: true; the input reads as it did. -/
def fnExactSealSizeSpec : ChangeSpec := { name := "fnExactSealSize", fn := fun _ => fun
  | [d1, d2] => { results := [.lit (.bool true)], args := [d1, d2] }
  | _ => none }
def fnExactSealSizeRow : OpenClaim := { program := "ytpndcbdfnclelaa", sum := "639a167c0c8188116b0940a686d05684de9f03e978a6f10911cacf0dcf745394", func := "loop.example/g00833/laws.FnExactSealSize", spec := "fnExactSealSize", apart := false }
def FnExactSealSizeSaid : Prop := fnExactSealSizeRow.holds Try.pinned (OpenSpec.ofChange fnExactSealSizeSpec)

/-- ITS FALSE NEIGHBOUR: 'it returns false'. Refute it at one input. -/
def fnExactSealSizeWrong : ChangeSpec := { name := "fnExactSealSize", fn := fun _ => fun
  | [d1, d2] => { results := [.lit (.bool false)], args := [d1, d2] }
  | _ => none }
def FnExactSealSizeWrongFalsely : Prop := fnExactSealSizeRow.holds Try.pinned (OpenSpec.ofChange fnExactSealSizeWrong)

/-- 'laws.FnExactCellsNeeded': WHATEVER THE INPUT: true; the input reads as it did. -/
def fnExactCellsNeededSpec : ChangeSpec := { name := "fnExactCellsNeeded", fn := fun _ => fun
  | [d1, d2] => { results := [.lit (.bool true)], args := [d1, d2] }
  | _ => none }
def fnExactCellsNeededRow : OpenClaim := { program := "ytpndcbdfnclelaa", sum := "639a167c0c8188116b0940a686d05684de9f03e978a6f10911cacf0dcf745394", func := "loop.example/g00833/laws.FnExactCellsNeeded", spec := "fnExactCellsNeeded", apart := false }
def FnExactCellsNeededSaid : Prop := fnExactCellsNeededRow.holds Try.pinned (OpenSpec.ofChange fnExactCellsNeededSpec)

/-- ITS FALSE NEIGHBOUR: 'it returns false'. Refute it at one input. -/
def fnExactCellsNeededWrong : ChangeSpec := { name := "fnExactCellsNeeded", fn := fun _ => fun
  | [d1, d2] => { results := [.lit (.bool false)], args := [d1, d2] }
  | _ => none }
def FnExactCellsNeededWrongFalsely : Prop := fnExactCellsNeededRow.holds Try.pinned (OpenSpec.ofChange fnExactCellsNeededWrong)

/- THE SECOND FORM. 'bulk': how many values and letters a reading holds, each counted each time it is reached (what is shared counts as often as it is met; a slice's spare places count too). A statement '..UptoSaid' is the law's where the arguments, and the package variables that the reading takes, are together of bulk at most 1048576: NARROWER than '..Said'. Prove '..Said' where nothing that the law and all that it calls make is longer than what came in: it says more and counts as full. Else prove '..UptoSaid'. A law counts once. -/
mutual
def uptoBulk {H : Type} : DataW H → Nat
  | .lit (.string bytes) => bytes.length + 1
  | .lit _ => 1
  | .nil => 1
  | .ptr d => uptoBulk d + 1
  | .slice elems spare => uptoBulkAll elems + uptoBulkAll spare + 1
  | .agg parts => uptoBulkAll parts + 1
  | .iface _ d => uptoBulk d + 1
  | .map entries => uptoBulkEntries entries + 1
  | .held _ => 1
def uptoBulkAll {H : Type} : List (DataW H) → Nat
  | [] => 0
  | d :: r => uptoBulk d + uptoBulkAll r
def uptoBulkEntries {H : Type} : List (Lit × DataW H) → Nat
  | [] => 0
  | x :: r => uptoBulkEntry x + uptoBulkEntries r
def uptoBulkEntry {H : Type} : Lit × DataW H → Nat
  | (.string bytes, d) => bytes.length + uptoBulk d + 1
  | (_, d) => uptoBulk d + 1
 end
def uptoSmall : (H : Type) → List (DataW H) → Bool := fun _ ds => decide (uptoBulkAll ds ≤ 1048576)
def OpenSpec.upto (s : _root_.Go.ChangeSpec) : _root_.Go.OpenSpec := { _root_.Go.OpenSpec.ofChange s with cond := some uptoSmall }

/-- 'laws.FnExactKindOfHead', WHERE WHAT IT READS IS OF BULK AT MOST 1048576: true; the input reads as it did. -/
def fnExactKindOfHeadUptoRow : OpenClaim := { program := "ytpndcbdfnclelaa", sum := "639a167c0c8188116b0940a686d05684de9f03e978a6f10911cacf0dcf745394", func := "loop.example/g00833/laws.FnExactKindOfHead", spec := "fnExactKindOfHead", apart := false, narrowed := true }
def FnExactKindOfHeadUptoSaid : Prop := fnExactKindOfHeadUptoRow.holds Try.pinned (OpenSpec.upto fnExactKindOfHeadSpec)

/-- 'laws.FnExactKindName', WHERE WHAT IT READS IS OF BULK AT MOST 1048576: true; the input reads as it did. -/
def fnExactKindNameUptoRow : OpenClaim := { program := "ytpndcbdfnclelaa", sum := "639a167c0c8188116b0940a686d05684de9f03e978a6f10911cacf0dcf745394", func := "loop.example/g00833/laws.FnExactKindName", spec := "fnExactKindName", apart := false, narrowed := true }
def FnExactKindNameUptoSaid : Prop := fnExactKindNameUptoRow.holds Try.pinned (OpenSpec.upto fnExactKindNameSpec)

/-- 'laws.FnExactImageSize', WHERE WHAT IT READS IS OF BULK AT MOST 1048576: true; the input reads as it did. -/
def fnExactImageSizeUptoRow : OpenClaim := { program := "ytpndcbdfnclelaa", sum := "639a167c0c8188116b0940a686d05684de9f03e978a6f10911cacf0dcf745394", func := "loop.example/g00833/laws.FnExactImageSize", spec := "fnExactImageSize", apart := false, narrowed := true }
def FnExactImageSizeUptoSaid : Prop := fnExactImageSizeUptoRow.holds Try.pinned (OpenSpec.upto fnExactImageSizeSpec)

/-- 'laws.FnExactHasStateAndData', WHERE WHAT IT READS IS OF BULK AT MOST 1048576: true; the input reads as it did. -/
def fnExactHasStateAndDataUptoRow : OpenClaim := { program := "ytpndcbdfnclelaa", sum := "639a167c0c8188116b0940a686d05684de9f03e978a6f10911cacf0dcf745394", func := "loop.example/g00833/laws.FnExactHasStateAndData", spec := "fnExactHasStateAndData", apart := false, narrowed := true }
def FnExactHasStateAndDataUptoSaid : Prop := fnExactHasStateAndDataUptoRow.holds Try.pinned (OpenSpec.upto fnExactHasStateAndDataSpec)

/-- 'laws.FnExactBlockOfByte', WHERE WHAT IT READS IS OF BULK AT MOST 1048576: true; the input reads as it did. -/
def fnExactBlockOfByteUptoRow : OpenClaim := { program := "ytpndcbdfnclelaa", sum := "639a167c0c8188116b0940a686d05684de9f03e978a6f10911cacf0dcf745394", func := "loop.example/g00833/laws.FnExactBlockOfByte", spec := "fnExactBlockOfByte", apart := false, narrowed := true }
def FnExactBlockOfByteUptoSaid : Prop := fnExactBlockOfByteUptoRow.holds Try.pinned (OpenSpec.upto fnExactBlockOfByteSpec)

/-- 'laws.FnExactBodySize', WHERE WHAT IT READS IS OF BULK AT MOST 1048576: true; the input reads as it did. -/
def fnExactBodySizeUptoRow : OpenClaim := { program := "ytpndcbdfnclelaa", sum := "639a167c0c8188116b0940a686d05684de9f03e978a6f10911cacf0dcf745394", func := "loop.example/g00833/laws.FnExactBodySize", spec := "fnExactBodySize", apart := false, narrowed := true }
def FnExactBodySizeUptoSaid : Prop := fnExactBodySizeUptoRow.holds Try.pinned (OpenSpec.upto fnExactBodySizeSpec)

/-- 'laws.FnExactMembersOf', WHERE WHAT IT READS IS OF BULK AT MOST 1048576: true; the input reads as it did. -/
def fnExactMembersOfUptoRow : OpenClaim := { program := "ytpndcbdfnclelaa", sum := "639a167c0c8188116b0940a686d05684de9f03e978a6f10911cacf0dcf745394", func := "loop.example/g00833/laws.FnExactMembersOf", spec := "fnExactMembersOf", apart := false, narrowed := true }
def FnExactMembersOfUptoSaid : Prop := fnExactMembersOfUptoRow.holds Try.pinned (OpenSpec.upto fnExactMembersOfSpec)

/-- 'laws.FnExactIsDescriptor', WHERE WHAT IT READS IS OF BULK AT MOST 1048576: true; the input reads as it did. -/
def fnExactIsDescriptorUptoRow : OpenClaim := { program := "ytpndcbdfnclelaa", sum := "639a167c0c8188116b0940a686d05684de9f03e978a6f10911cacf0dcf745394", func := "loop.example/g00833/laws.FnExactIsDescriptor", spec := "fnExactIsDescriptor", apart := false, narrowed := true }
def FnExactIsDescriptorUptoSaid : Prop := fnExactIsDescriptorUptoRow.holds Try.pinned (OpenSpec.upto fnExactIsDescriptorSpec)

/-- 'laws.FnExactCliqueOf', WHERE WHAT IT READS IS OF BULK AT MOST 1048576: true; the input reads as it did. -/
def fnExactCliqueOfUptoRow : OpenClaim := { program := "ytpndcbdfnclelaa", sum := "639a167c0c8188116b0940a686d05684de9f03e978a6f10911cacf0dcf745394", func := "loop.example/g00833/laws.FnExactCliqueOf", spec := "fnExactCliqueOf", apart := false, narrowed := true }
def FnExactCliqueOfUptoSaid : Prop := fnExactCliqueOfUptoRow.holds Try.pinned (OpenSpec.upto fnExactCliqueOfSpec)

/-- 'laws.FnExactAgreedMembers', WHERE WHAT IT READS IS OF BULK AT MOST 1048576: true; the input reads as it did. -/
def fnExactAgreedMembersUptoRow : OpenClaim := { program := "ytpndcbdfnclelaa", sum := "639a167c0c8188116b0940a686d05684de9f03e978a6f10911cacf0dcf745394", func := "loop.example/g00833/laws.FnExactAgreedMembers", spec := "fnExactAgreedMembers", apart := false, narrowed := true }
def FnExactAgreedMembersUptoSaid : Prop := fnExactAgreedMembersUptoRow.holds Try.pinned (OpenSpec.upto fnExactAgreedMembersSpec)

/-- 'laws.FnExactSealSize', WHERE WHAT IT READS IS OF BULK AT MOST 1048576: true; the input reads as it did. -/
def fnExactSealSizeUptoRow : OpenClaim := { program := "ytpndcbdfnclelaa", sum := "639a167c0c8188116b0940a686d05684de9f03e978a6f10911cacf0dcf745394", func := "loop.example/g00833/laws.FnExactSealSize", spec := "fnExactSealSize", apart := false, narrowed := true }
def FnExactSealSizeUptoSaid : Prop := fnExactSealSizeUptoRow.holds Try.pinned (OpenSpec.upto fnExactSealSizeSpec)

/-- 'laws.FnExactCellsNeeded', WHERE WHAT IT READS IS OF BULK AT MOST 1048576: true; the input reads as it did. -/
def fnExactCellsNeededUptoRow : OpenClaim := { program := "ytpndcbdfnclelaa", sum := "639a167c0c8188116b0940a686d05684de9f03e978a6f10911cacf0dcf745394", func := "loop.example/g00833/laws.FnExactCellsNeeded", spec := "fnExactCellsNeeded", apart := false, narrowed := true }
def FnExactCellsNeededUptoSaid : Prop := fnExactCellsNeededUptoRow.holds Try.pinned (OpenSpec.upto fnExactCellsNeededSpec)

end Rows
end Go.Proofs.Ytpndcbdfnclelaa

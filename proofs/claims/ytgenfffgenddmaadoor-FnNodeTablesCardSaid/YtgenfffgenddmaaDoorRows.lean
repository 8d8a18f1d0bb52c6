/-
  NARROWER THAN 'FOR EVERY INPUT', by the rows' own cells (each row's printed sentence says how): FnExactReadNodeTable: laid · FnExactIsNodeInfo: laid · FnExactIsNodeTable: laid · FnExactFindNode: laid · FnExactActiveVector: laid · FnExactWorstDrift: laid · FnExactNodeTableBytes: laid · FnNodeTables: laid · FnActive: laid.
  DERIVED. THE GIVEN ROWS OF THIS SEAT. 9 by the template 'for every input the law returns true; each argument reads behind the call as it read before'; 0 by the template 'total and deterministic' (their statements: YtgenfffgenddmaaDoorTotals.lean).
  GIVEN WITH THE SEED: the statements are not yours to turn. If you find one false, say at which input.
  Laid BY PROGRAM, IN A SANDBOX (cutbox-rows.mjs): the forced cells as the released guide's own fill.sh prints them over the translation b4268df4a98efe05… (all of the seat's roots in one cut). By AI agents, Wed Nov 11 2026. No macro, syntax, notation, axiom, sorry.
-/
import Derived.Test.YtgenfffgenddmaaDoorChecked
import GoSem.PinnedTables
import GoSem.Claim
import GoSem.ClaimJoined
import GoSem.ClaimMapViews
import Derived.JoinedTies
import Derived.KernelRfl
namespace Go.Proofs.YtgenfffgenddmaaDoor
/- THE CELL 'sum', in the pinned program and in every row, IS THE sha256 OF THE DUMP (.gsa) THAT YtgenfffgenddmaaDoorProg.lean LOADS. Nothing in Lean hashes anything: it is a label: what it is worth is what the hold of that sum in a sandbox is worth. -/
noncomputable def Tryd.pinned : Pinned := { name := "ytgenfffgenddmaadoor", sum := "b4268df4a98efe05556c0722108e9091b5b49153499acf35a7894583bc1a6d88", checked := Tryd.checked }
namespace Rows
def none {H : Type} : Left H := { results := [], args := [] }

/- WHAT THE LISTED PACKAGE-LEVEL VARIABLES READ AS WHEN THE CALL BEGINS. Each datum BY PROGRAM (the guide's laid-datum.mjs) off the statement by which the dump's own 'gosem.cut.vars' lays the variable. In a bare row this is a premise. The card (YtgenfffgenddmaaDoorCards.lean) ties it to the program's text. -/
def laid_unicode_utf8_acceptRanges {H : Type} : DataW H := .agg [.agg [.lit (.int .u8 128), .lit (.int .u8 191)], .agg [.lit (.int .u8 160), .lit (.int .u8 191)], .agg [.lit (.int .u8 128), .lit (.int .u8 159)], .agg [.lit (.int .u8 144), .lit (.int .u8 191)], .agg [.lit (.int .u8 128), .lit (.int .u8 143)], .agg [.lit (.int .u8 0), .lit (.int .u8 0)], .agg [.lit (.int .u8 0), .lit (.int .u8 0)], .agg [.lit (.int .u8 0), .lit (.int .u8 0)], .agg [.lit (.int .u8 0), .lit (.int .u8 0)], .agg [.lit (.int .u8 0), .lit (.int .u8 0)], .agg [.lit (.int .u8 0), .lit (.int .u8 0)], .agg [.lit (.int .u8 0), .lit (.int .u8 0)], .agg [.lit (.int .u8 0), .lit (.int .u8 0)], .agg [.lit (.int .u8 0), .lit (.int .u8 0)], .agg [.lit (.int .u8 0), .lit (.int .u8 0)], .agg [.lit (.int .u8 0), .lit (.int .u8 0)]]
/-- One of Go's own tables, pinned by name: the form's constant. -/
def laid_unicode_utf8_first : DataW Unit := Go.Pinned.utf8First

/-- 'laws.FnExactReadNodeTable': WHATEVER THE INPUT: true; the input reads as it did. -/
def fnExactReadNodeTableSpec : ChangeSpec := { name := "fnExactReadNodeTable", fn := fun _ => fun
  | [d] => { results := [.lit (.bool true)], args := [d] }
  | _ => none }
def fnExactReadNodeTableRow : OpenClaim := { program := "ytgenfffgenddmaadoor", sum := "b4268df4a98efe05556c0722108e9091b5b49153499acf35a7894583bc1a6d88", func := "loop.example/g00833/laws.FnExactReadNodeTable", spec := "fnExactReadNodeTable", inPlace := ["internal/bytealg.IndexByteString", "internal/bytealg.IndexString"], unfollowed := true, recurses := true, named := ["unicode/utf8.first", "unicode/utf8.acceptRanges", "internal/bytealg.MaxLen"], apart := false, laid := [("unicode/utf8.acceptRanges", laid_unicode_utf8_acceptRanges), ("unicode/utf8.first", laid_unicode_utf8_first)] }
def FnExactReadNodeTableSaid : Prop := fnExactReadNodeTableRow.holds Tryd.pinned (OpenSpec.ofChange fnExactReadNodeTableSpec)

/-- ITS FALSE NEIGHBOUR: 'it returns false'. Refute it at one input. -/
def fnExactReadNodeTableWrong : ChangeSpec := { name := "fnExactReadNodeTable", fn := fun _ => fun
  | [d] => { results := [.lit (.bool false)], args := [d] }
  | _ => none }
def FnExactReadNodeTableWrongFalsely : Prop := fnExactReadNodeTableRow.holds Tryd.pinned (OpenSpec.ofChange fnExactReadNodeTableWrong)

/-- 'laws.FnExactIsNodeInfo': WHATEVER THE INPUT: true; the input reads as it did. -/
def fnExactIsNodeInfoSpec : ChangeSpec := { name := "fnExactIsNodeInfo", fn := fun _ => fun
  | [d] => { results := [.lit (.bool true)], args := [d] }
  | _ => none }
def fnExactIsNodeInfoRow : OpenClaim := { program := "ytgenfffgenddmaadoor", sum := "b4268df4a98efe05556c0722108e9091b5b49153499acf35a7894583bc1a6d88", func := "loop.example/g00833/laws.FnExactIsNodeInfo", spec := "fnExactIsNodeInfo", inPlace := ["internal/bytealg.IndexByteString", "internal/bytealg.IndexString"], named := ["unicode/utf8.first", "unicode/utf8.acceptRanges", "internal/bytealg.MaxLen"], apart := false, laid := [("unicode/utf8.acceptRanges", laid_unicode_utf8_acceptRanges), ("unicode/utf8.first", laid_unicode_utf8_first)] }
def FnExactIsNodeInfoSaid : Prop := fnExactIsNodeInfoRow.holds Tryd.pinned (OpenSpec.ofChange fnExactIsNodeInfoSpec)

/-- ITS FALSE NEIGHBOUR: 'it returns false'. Refute it at one input. -/
def fnExactIsNodeInfoWrong : ChangeSpec := { name := "fnExactIsNodeInfo", fn := fun _ => fun
  | [d] => { results := [.lit (.bool false)], args := [d] }
  | _ => none }
def FnExactIsNodeInfoWrongFalsely : Prop := fnExactIsNodeInfoRow.holds Tryd.pinned (OpenSpec.ofChange fnExactIsNodeInfoWrong)

/-- 'laws.FnExactIsNodeTable': WHATEVER THE INPUT: true; the input reads as it did. -/
def fnExactIsNodeTableSpec : ChangeSpec := { name := "fnExactIsNodeTable", fn := fun _ => fun
  | [d] => { results := [.lit (.bool true)], args := [d] }
  | _ => none }
def fnExactIsNodeTableRow : OpenClaim := { program := "ytgenfffgenddmaadoor", sum := "b4268df4a98efe05556c0722108e9091b5b49153499acf35a7894583bc1a6d88", func := "loop.example/g00833/laws.FnExactIsNodeTable", spec := "fnExactIsNodeTable", inPlace := ["internal/bytealg.IndexByteString", "internal/bytealg.IndexString"], unfollowed := true, recurses := true, named := ["unicode/utf8.first", "unicode/utf8.acceptRanges", "internal/bytealg.MaxLen"], apart := false, laid := [("unicode/utf8.acceptRanges", laid_unicode_utf8_acceptRanges), ("unicode/utf8.first", laid_unicode_utf8_first)] }
def FnExactIsNodeTableSaid : Prop := fnExactIsNodeTableRow.holds Tryd.pinned (OpenSpec.ofChange fnExactIsNodeTableSpec)

/-- ITS FALSE NEIGHBOUR: 'it returns false'. Refute it at one input. -/
def fnExactIsNodeTableWrong : ChangeSpec := { name := "fnExactIsNodeTable", fn := fun _ => fun
  | [d] => { results := [.lit (.bool false)], args := [d] }
  | _ => none }
def FnExactIsNodeTableWrongFalsely : Prop := fnExactIsNodeTableRow.holds Tryd.pinned (OpenSpec.ofChange fnExactIsNodeTableWrong)

/-- 'laws.FnExactFindNode': WHATEVER THE INPUT: true; the input reads as it did. -/
def fnExactFindNodeSpec : ChangeSpec := { name := "fnExactFindNode", fn := fun _ => fun
  | [d1, d2] => { results := [.lit (.bool true)], args := [d1, d2] }
  | _ => none }
def fnExactFindNodeRow : OpenClaim := { program := "ytgenfffgenddmaadoor", sum := "b4268df4a98efe05556c0722108e9091b5b49153499acf35a7894583bc1a6d88", func := "loop.example/g00833/laws.FnExactFindNode", spec := "fnExactFindNode", inPlace := ["internal/bytealg.IndexByteString", "internal/bytealg.IndexString"], unfollowed := true, recurses := true, named := ["unicode/utf8.first", "unicode/utf8.acceptRanges", "internal/bytealg.MaxLen"], apart := false, laid := [("unicode/utf8.acceptRanges", laid_unicode_utf8_acceptRanges), ("unicode/utf8.first", laid_unicode_utf8_first)] }
def FnExactFindNodeSaid : Prop := fnExactFindNodeRow.holds Tryd.pinned (OpenSpec.ofChange fnExactFindNodeSpec)

/-- ITS FALSE NEIGHBOUR: 'it returns false'. Refute it at one input. -/
def fnExactFindNodeWrong : ChangeSpec := { name := "fnExactFindNode", fn := fun _ => fun
  | [d1, d2] => { results := [.lit (.bool false)], args := [d1, d2] }
  | _ => none }
def FnExactFindNodeWrongFalsely : Prop := fnExactFindNodeRow.holds Tryd.pinned (OpenSpec.ofChange fnExactFindNodeWrong)

/-- 'laws.FnExactActiveVector': WHATEVER THE INPUT: true; the input reads as it did. -/
def fnExactActiveVectorSpec : ChangeSpec := { name := "fnExactActiveVector", fn := fun _ => fun
  | [d] => { results := [.lit (.bool true)], args := [d] }
  | _ => none }
def fnExactActiveVectorRow : OpenClaim := { program := "ytgenfffgenddmaadoor", sum := "b4268df4a98efe05556c0722108e9091b5b49153499acf35a7894583bc1a6d88", func := "loop.example/g00833/laws.FnExactActiveVector", spec := "fnExactActiveVector", inPlace := ["internal/bytealg.IndexByteString", "internal/bytealg.IndexString"], unfollowed := true, recurses := true, named := ["unicode/utf8.first", "unicode/utf8.acceptRanges", "internal/bytealg.MaxLen"], apart := false, laid := [("unicode/utf8.acceptRanges", laid_unicode_utf8_acceptRanges), ("unicode/utf8.first", laid_unicode_utf8_first)] }
def FnExactActiveVectorSaid : Prop := fnExactActiveVectorRow.holds Tryd.pinned (OpenSpec.ofChange fnExactActiveVectorSpec)

/-- ITS FALSE NEIGHBOUR: 'it returns false'. Refute it at one input. -/
def fnExactActiveVectorWrong : ChangeSpec := { name := "fnExactActiveVector", fn := fun _ => fun
  | [d] => { results := [.lit (.bool false)], args := [d] }
  | _ => none }
def FnExactActiveVectorWrongFalsely : Prop := fnExactActiveVectorRow.holds Tryd.pinned (OpenSpec.ofChange fnExactActiveVectorWrong)

/-- 'laws.FnExactWorstDrift': WHATEVER THE INPUT: true; the input reads as it did. -/
def fnExactWorstDriftSpec : ChangeSpec := { name := "fnExactWorstDrift", fn := fun _ => fun
  | [d1, d2] => { results := [.lit (.bool true)], args := [d1, d2] }
  | _ => none }
def fnExactWorstDriftRow : OpenClaim := { program := "ytgenfffgenddmaadoor", sum := "b4268df4a98efe05556c0722108e9091b5b49153499acf35a7894583bc1a6d88", func := "loop.example/g00833/laws.FnExactWorstDrift", spec := "fnExactWorstDrift", inPlace := ["internal/bytealg.IndexByteString", "internal/bytealg.IndexString"], unfollowed := true, recurses := true, named := ["unicode/utf8.first", "unicode/utf8.acceptRanges", "internal/bytealg.MaxLen"], apart := false, laid := [("unicode/utf8.acceptRanges", laid_unicode_utf8_acceptRanges), ("unicode/utf8.first", laid_unicode_utf8_first)] }
def FnExactWorstDriftSaid : Prop := fnExactWorstDriftRow.holds Tryd.pinned (OpenSpec.ofChange fnExactWorstDriftSpec)

/-- ITS FALSE NEIGHBOUR: 'it returns false'. Refute it at one input. -/
def fnExactWorstDriftWrong : ChangeSpec := { name := "fnExactWorstDrift", fn := fun _ => fun
  | [d1, d2] => { results := [.lit (.bool false)], args := [d1, d2] }
  | _ => none }
def FnExactWorstDriftWrongFalsely : Prop := fnExactWorstDriftRow.holds Tryd.pinned (OpenSpec.ofChange fnExactWorstDriftWrong)

/-- 'laws.FnExactNodeTableBytes': WHATEVER THE INPUT: true; the input reads as it did. -/
def fnExactNodeTableBytesSpec : ChangeSpec := { name := "fnExactNodeTableBytes", fn := fun _ => fun
  | [d] => { results := [.lit (.bool true)], args := [d] }
  | _ => none }
def fnExactNodeTableBytesRow : OpenClaim := { program := "ytgenfffgenddmaadoor", sum := "b4268df4a98efe05556c0722108e9091b5b49153499acf35a7894583bc1a6d88", func := "loop.example/g00833/laws.FnExactNodeTableBytes", spec := "fnExactNodeTableBytes", inPlace := ["internal/bytealg.IndexByteString", "internal/bytealg.IndexString"], unfollowed := true, recurses := true, named := ["unicode/utf8.first", "unicode/utf8.acceptRanges", "internal/bytealg.MaxLen"], apart := false, laid := [("unicode/utf8.acceptRanges", laid_unicode_utf8_acceptRanges), ("unicode/utf8.first", laid_unicode_utf8_first)] }
def FnExactNodeTableBytesSaid : Prop := fnExactNodeTableBytesRow.holds Tryd.pinned (OpenSpec.ofChange fnExactNodeTableBytesSpec)

/-- ITS FALSE NEIGHBOUR: 'it returns false'. Refute it at one input. -/
def fnExactNodeTableBytesWrong : ChangeSpec := { name := "fnExactNodeTableBytes", fn := fun _ => fun
  | [d] => { results := [.lit (.bool false)], args := [d] }
  | _ => none }
def FnExactNodeTableBytesWrongFalsely : Prop := fnExactNodeTableBytesRow.holds Tryd.pinned (OpenSpec.ofChange fnExactNodeTableBytesWrong)

/-- 'laws.FnNodeTables': WHATEVER THE INPUT: true; the input reads as it did. -/
def fnNodeTablesSpec : ChangeSpec := { name := "fnNodeTables", fn := fun _ => fun
  | [d] => { results := [.lit (.bool true)], args := [d] }
  | _ => none }
def fnNodeTablesRow : OpenClaim := { program := "ytgenfffgenddmaadoor", sum := "b4268df4a98efe05556c0722108e9091b5b49153499acf35a7894583bc1a6d88", func := "loop.example/g00833/laws.FnNodeTables", spec := "fnNodeTables", inPlace := ["internal/bytealg.IndexByteString", "internal/bytealg.IndexString"], unfollowed := true, recurses := true, named := ["unicode/utf8.first", "unicode/utf8.acceptRanges", "internal/bytealg.MaxLen"], apart := false, laid := [("unicode/utf8.acceptRanges", laid_unicode_utf8_acceptRanges), ("unicode/utf8.first", laid_unicode_utf8_first)] }
def FnNodeTablesSaid : Prop := fnNodeTablesRow.holds Tryd.pinned (OpenSpec.ofChange fnNodeTablesSpec)

/-- ITS FALSE NEIGHBOUR: 'it returns false'. Refute it at one input. -/
def fnNodeTablesWrong : ChangeSpec := { name := "fnNodeTables", fn := fun _ => fun
  | [d] => { results := [.lit (.bool false)], args := [d] }
  | _ => none }
def FnNodeTablesWrongFalsely : Prop := fnNodeTablesRow.holds Tryd.pinned (OpenSpec.ofChange fnNodeTablesWrong)

/-- 'laws.FnActive': WHATEVER THE INPUT: true; the input reads as it did. -/
def fnActiveSpec : ChangeSpec := { name := "fnActive", fn := fun _ => fun
  | [d] => { results := [.lit (.bool true)], args := [d] }
  | _ => none }
def fnActiveRow : OpenClaim := { program := "ytgenfffgenddmaadoor", sum := "b4268df4a98efe05556c0722108e9091b5b49153499acf35a7894583bc1a6d88", func := "loop.example/g00833/laws.FnActive", spec := "fnActive", inPlace := ["internal/bytealg.IndexByteString", "internal/bytealg.IndexString"], unfollowed := true, recurses := true, named := ["unicode/utf8.first", "unicode/utf8.acceptRanges", "internal/bytealg.MaxLen"], apart := false, laid := [("unicode/utf8.acceptRanges", laid_unicode_utf8_acceptRanges), ("unicode/utf8.first", laid_unicode_utf8_first)] }
def FnActiveSaid : Prop := fnActiveRow.holds Tryd.pinned (OpenSpec.ofChange fnActiveSpec)

/-- ITS FALSE NEIGHBOUR: 'it returns false'. Refute it at one input. -/
def fnActiveWrong : ChangeSpec := { name := "fnActive", fn := fun _ => fun
  | [d] => { results := [.lit (.bool false)], args := [d] }
  | _ => none }
def FnActiveWrongFalsely : Prop := fnActiveRow.holds Tryd.pinned (OpenSpec.ofChange fnActiveWrong)

/- THE SECOND FORM. 'bulk': how many values and letters a reading holds, each counted each time it is reached (what is shared counts as often as it is met; a slice's spare places count too). A statement '..UptoSaid' is the law's where the arguments, and the package variables that the reading takes, are together of bulk at most 1048576: NARROWER than '..Said'. Prove '..Said' where nothing that the law and all that it calls make is longer than what came in: it says more and counts as full. Else prove '..UptoSaid'. A law counts once. -/
mutual
def uptoBulk {H : Type} : DataW H → Nat
  | .lit (.string bytes) => bytes.length + 1
  | .lit _ => 1
  | .nil => 1
  | .ptr d => uptoBulk d + 1
  | .slice elems spare => uptoBulkAll elems + uptoBulkAll spare + 1
  | .agg parts => uptoBulkAll parts + 1
  | .iface _ d => uptoBulk d + 1
  | .map entries => uptoBulkEntries entries + 1
  | .held _ => 1
def uptoBulkAll {H : Type} : List (DataW H) → Nat
  | [] => 0
  | d :: r => uptoBulk d + uptoBulkAll r
def uptoBulkEntries {H : Type} : List (Lit × DataW H) → Nat
  | [] => 0
  | x :: r => uptoBulkEntry x + uptoBulkEntries r
def uptoBulkEntry {H : Type} : Lit × DataW H → Nat
  | (.string bytes, d) => bytes.length + uptoBulk d + 1
  | (_, d) => uptoBulk d + 1
 end
def uptoSmall : (H : Type) → List (DataW H) → Bool := fun _ ds => decide (uptoBulkAll ds ≤ 1048576)
def OpenSpec.upto (s : _root_.Go.ChangeSpec) : _root_.Go.OpenSpec := { _root_.Go.OpenSpec.ofChange s with cond := some uptoSmall }

/-- 'laws.FnExactReadNodeTable', WHERE WHAT IT READS IS OF BULK AT MOST 1048576: true; the input reads as it did. -/
def fnExactReadNodeTableUptoRow : OpenClaim := { program := "ytgenfffgenddmaadoor", sum := "b4268df4a98efe05556c0722108e9091b5b49153499acf35a7894583bc1a6d88", func := "loop.example/g00833/laws.FnExactReadNodeTable", spec := "fnExactReadNodeTable", inPlace := ["internal/bytealg.IndexByteString", "internal/bytealg.IndexString"], unfollowed := true, recurses := true, named := ["unicode/utf8.first", "unicode/utf8.acceptRanges", "internal/bytealg.MaxLen"], apart := false, laid := [("unicode/utf8.acceptRanges", laid_unicode_utf8_acceptRanges), ("unicode/utf8.first", laid_unicode_utf8_first)], narrowed := true }
def FnExactReadNodeTableUptoSaid : Prop := fnExactReadNodeTableUptoRow.holds Tryd.pinned (OpenSpec.upto fnExactReadNodeTableSpec)

/-- 'laws.FnExactIsNodeInfo', WHERE WHAT IT READS IS OF BULK AT MOST 1048576: true; the input reads as it did. -/
def fnExactIsNodeInfoUptoRow : OpenClaim := { program := "ytgenfffgenddmaadoor", sum := "b4268df4a98efe05556c0722108e9091b5b49153499acf35a7894583bc1a6d88", func := "loop.example/g00833/laws.FnExactIsNodeInfo", spec := "fnExactIsNodeInfo", inPlace := ["internal/bytealg.IndexByteString", "internal/bytealg.IndexString"], named := ["unicode/utf8.first", "unicode/utf8.acceptRanges", "internal/bytealg.MaxLen"], apart := false, laid := [("unicode/utf8.acceptRanges", laid_unicode_utf8_acceptRanges), ("unicode/utf8.first", laid_unicode_utf8_first)], narrowed := true }
def FnExactIsNodeInfoUptoSaid : Prop := fnExactIsNodeInfoUptoRow.holds Tryd.pinned (OpenSpec.upto fnExactIsNodeInfoSpec)

/-- 'laws.FnExactIsNodeTable', WHERE WHAT IT READS IS OF BULK AT MOST 1048576: true; the input reads as it did. -/
def fnExactIsNodeTableUptoRow : OpenClaim := { program := "ytgenfffgenddmaadoor", sum := "b4268df4a98efe05556c0722108e9091b5b49153499acf35a7894583bc1a6d88", func := "loop.example/g00833/laws.FnExactIsNodeTable", spec := "fnExactIsNodeTable", inPlace := ["internal/bytealg.IndexByteString", "internal/bytealg.IndexString"], unfollowed := true, recurses := true, named := ["unicode/utf8.first", "unicode/utf8.acceptRanges", "internal/bytealg.MaxLen"], apart := false, laid := [("unicode/utf8.acceptRanges", laid_unicode_utf8_acceptRanges), ("unicode/utf8.first", laid_unicode_utf8_first)], narrowed := true }
def FnExactIsNodeTableUptoSaid : Prop := fnExactIsNodeTableUptoRow.holds Tryd.pinned (OpenSpec.upto fnExactIsNodeTableSpec)

/-- 'laws.FnExactFindNode', WHERE WHAT IT READS IS OF BULK AT MOST 1048576: true; the input reads as it did. -/
def fnExactFindNodeUptoRow : OpenClaim := { program := "ytgenfffgenddmaadoor", sum := "b4268df4a98efe05556c0722108e9091b5b49153499acf35a7894583bc1a6d88", func := "loop.example/g00833/laws.FnExactFindNode", spec := "fnExactFindNode", inPlace := ["internal/bytealg.IndexByteString", "internal/bytealg.IndexString"], unfollowed := true, recurses := true, named := ["unicode/utf8.first", "unicode/utf8.acceptRanges", "internal/bytealg.MaxLen"], apart := false, laid := [("unicode/utf8.acceptRanges", laid_unicode_utf8_acceptRanges), ("unicode/utf8.first", laid_unicode_utf8_first)], narrowed := true }
def FnExactFindNodeUptoSaid : Prop := fnExactFindNodeUptoRow.holds Tryd.pinned (OpenSpec.upto fnExactFindNodeSpec)

/-- 'laws.FnExactActiveVector', WHERE WHAT IT READS IS OF BULK AT MOST 1048576: true; the input reads as it did. -/
def fnExactActiveVectorUptoRow : OpenClaim := { program := "ytgenfffgenddmaadoor", sum := "b4268df4a98efe05556c0722108e9091b5b49153499acf35a7894583bc1a6d88", func := "loop.example/g00833/laws.FnExactActiveVector", spec := "fnExactActiveVector", inPlace := ["internal/bytealg.IndexByteString", "internal/bytealg.IndexString"], unfollowed := true, recurses := true, named := ["unicode/utf8.first", "unicode/utf8.acceptRanges", "internal/bytealg.MaxLen"], apart := false, laid := [("unicode/utf8.acceptRanges", laid_unicode_utf8_acceptRanges), ("unicode/utf8.first", laid_unicode_utf8_first)], narrowed := true }
def FnExactActiveVectorUptoSaid : Prop := fnExactActiveVectorUptoRow.holds Tryd.pinned (OpenSpec.upto fnExactActiveVectorSpec)

/-- 'laws.FnExactWorstDrift', WHERE WHAT IT READS IS OF BULK AT MOST 1048576: true; the input reads as it did. -/
def fnExactWorstDriftUptoRow : OpenClaim := { program := "ytgenfffgenddmaadoor", sum := "b4268df4a98efe05556c0722108e9091b5b49153499acf35a7894583bc1a6d88", func := "loop.example/g00833/laws.FnExactWorstDrift", spec := "fnExactWorstDrift", inPlace := ["internal/bytealg.IndexByteString", "internal/bytealg.IndexString"], unfollowed := true, recurses := true, named := ["unicode/utf8.first", "unicode/utf8.acceptRanges", "internal/bytealg.MaxLen"], apart := false, laid := [("unicode/utf8.acceptRanges", laid_unicode_utf8_acceptRanges), ("unicode/utf8.first", laid_unicode_utf8_first)], narrowed := true }
def FnExactWorstDriftUptoSaid : Prop := fnExactWorstDriftUptoRow.holds Tryd.pinned (OpenSpec.upto fnExactWorstDriftSpec)

/-- 'laws.FnExactNodeTableBytes', WHERE WHAT IT READS IS OF BULK AT MOST 1048576: true; the input reads as it did. -/
def fnExactNodeTableBytesUptoRow : OpenClaim := { program := "ytgenfffgenddmaadoor", sum := "b4268df4a98efe05556c0722108e9091b5b49153499acf35a7894583bc1a6d88", func := "loop.example/g00833/laws.FnExactNodeTableBytes", spec := "fnExactNodeTableBytes", inPlace := ["internal/bytealg.IndexByteString", "internal/bytealg.IndexString"], unfollowed := true, recurses := true, named := ["unicode/utf8.first", "unicode/utf8.acceptRanges", "internal/bytealg.MaxLen"], apart := false, laid := [("unicode/utf8.acceptRanges", laid_unicode_utf8_acceptRanges), ("unicode/utf8.first", laid_unicode_utf8_first)], narrowed := true }
def FnExactNodeTableBytesUptoSaid : Prop := fnExactNodeTableBytesUptoRow.holds Tryd.pinned (OpenSpec.upto fnExactNodeTableBytesSpec)

/-- 'laws.FnNodeTables', WHERE WHAT IT READS IS OF BULK AT MOST 1048576: true; the input reads as it did. -/
def fnNodeTablesUptoRow : OpenClaim := { program := "ytgenfffgenddmaadoor", sum := "b4268df4a98efe05556c0722108e9091b5b49153499acf35a7894583bc1a6d88", func := "loop.example/g00833/laws.FnNodeTables", spec := "fnNodeTables", inPlace := ["internal/bytealg.IndexByteString", "internal/bytealg.IndexString"], unfollowed := true, recurses := true, named := ["unicode/utf8.first", "unicode/utf8.acceptRanges", "internal/bytealg.MaxLen"], apart := false, laid := [("unicode/utf8.acceptRanges", laid_unicode_utf8_acceptRanges), ("unicode/utf8.first", laid_unicode_utf8_first)], narrowed := true }
def FnNodeTablesUptoSaid : Prop := fnNodeTablesUptoRow.holds Tryd.pinned (OpenSpec.upto fnNodeTablesSpec)

/-- 'laws.FnActive', WHERE WHAT IT READS IS OF BULK AT MOST 1048576: true; the input reads as it did. -/
def fnActiveUptoRow : OpenClaim := { program := "ytgenfffgenddmaadoor", sum := "b4268df4a98efe05556c0722108e9091b5b49153499acf35a7894583bc1a6d88", func := "loop.example/g00833/laws.FnActive", spec := "fnActive", inPlace := ["internal/bytealg.IndexByteString", "internal/bytealg.IndexString"], unfollowed := true, recurses := true, named := ["unicode/utf8.first", "unicode/utf8.acceptRanges", "internal/bytealg.MaxLen"], apart := false, laid := [("unicode/utf8.acceptRanges", laid_unicode_utf8_acceptRanges), ("unicode/utf8.first", laid_unicode_utf8_first)], narrowed := true }
def FnActiveUptoSaid : Prop := fnActiveUptoRow.holds Tryd.pinned (OpenSpec.upto fnActiveSpec)

end Rows
end Go.Proofs.YtgenfffgenddmaaDoor

/-
  DERIVED. GIVEN WITH THE SEED: THE CARDS: each row of YtgenfffgenddmaaDoorRows.lean that lists a variable, with what it lists TIED to the program's text (the seventh form; the later family's looks); each row that meets fmt, with fmt's text TOLD by the authors' own Lean function (tested against real Go, not proved from fmt's source: count such statements apart). THE CARD IS WHAT COUNTS. Prove the row's statement (the work); the ties are given (YtgenfffgenddmaaDoorTie.lean); close each card by the builder's one call (the guide's Derived/Test/ToyasCard.lean, 'card_holds'). Laid BY PROGRAM, IN A SANDBOX (cutbox-door.mjs). By AI agents, Wed Nov 11 2026. No macro, syntax, notation, axiom, sorry.
-/
import Derived.Test.YtgenfffgenddmaaDoorRows
import GoSem.ClaimSeven
namespace Go.Proofs.YtgenfffgenddmaaDoor
namespace Rows

/-- THE TIED CARD OF 'laws.FnExactReadNodeTable'. -/
def fnExactReadNodeTableCard : Claim7 := { stood := { row := fnExactReadNodeTableRow, standIns := [], harness := (true, "b4953994607c83ba6da66494e35707c320759e820881b15466508426a09fff6f"), looks := false }, kinds := [], alts := [], laidByText := true, laidKinds := [.data, .pinned], laidTests := true, laidLooks := .later }
def FnExactReadNodeTableCardSaid : Prop := Claim7.holds Tryd.pinned (.plain (OpenSpec.ofChange fnExactReadNodeTableSpec)) fnExactReadNodeTableCard

/-- THE TIED CARD OF 'laws.FnExactIsNodeInfo'. -/
def fnExactIsNodeInfoCard : Claim7 := { stood := { row := fnExactIsNodeInfoRow, standIns := [], harness := (true, "b4953994607c83ba6da66494e35707c320759e820881b15466508426a09fff6f"), looks := false }, kinds := [], alts := [], laidByText := true, laidKinds := [.data, .pinned], laidTests := true, laidLooks := .later }
def FnExactIsNodeInfoCardSaid : Prop := Claim7.holds Tryd.pinned (.plain (OpenSpec.ofChange fnExactIsNodeInfoSpec)) fnExactIsNodeInfoCard

/-- THE TIED CARD OF 'laws.FnExactIsNodeTable'. -/
def fnExactIsNodeTableCard : Claim7 := { stood := { row := fnExactIsNodeTableRow, standIns := [], harness := (true, "b4953994607c83ba6da66494e35707c320759e820881b15466508426a09fff6f"), looks := false }, kinds := [], alts := [], laidByText := true, laidKinds := [.data, .pinned], laidTests := true, laidLooks := .later }
def FnExactIsNodeTableCardSaid : Prop := Claim7.holds Tryd.pinned (.plain (OpenSpec.ofChange fnExactIsNodeTableSpec)) fnExactIsNodeTableCard

/-- THE TIED CARD OF 'laws.FnExactFindNode'. -/
def fnExactFindNodeCard : Claim7 := { stood := { row := fnExactFindNodeRow, standIns := [], harness := (true, "b4953994607c83ba6da66494e35707c320759e820881b15466508426a09fff6f"), looks := false }, kinds := [], alts := [], laidByText := true, laidKinds := [.data, .pinned], laidTests := true, laidLooks := .later }
def FnExactFindNodeCardSaid : Prop := Claim7.holds Tryd.pinned (.plain (OpenSpec.ofChange fnExactFindNodeSpec)) fnExactFindNodeCard

/-- THE TIED CARD OF 'laws.FnExactActiveVector'. -/
def fnExactActiveVectorCard : Claim7 := { stood := { row := fnExactActiveVectorRow, standIns := [], harness := (true, "b4953994607c83ba6da66494e35707c320759e820881b15466508426a09fff6f"), looks := false }, kinds := [], alts := [], laidByText := true, laidKinds := [.data, .pinned], laidTests := true, laidLooks := .later }
def FnExactActiveVectorCardSaid : Prop := Claim7.holds Tryd.pinned (.plain (OpenSpec.ofChange fnExactActiveVectorSpec)) fnExactActiveVectorCard

/-- THE TIED CARD OF 'laws.FnExactWorstDrift'. -/
def fnExactWorstDriftCard : Claim7 := { stood := { row := fnExactWorstDriftRow, standIns := [], harness := (true, "b4953994607c83ba6da66494e35707c320759e820881b15466508426a09fff6f"), looks := false }, kinds := [], alts := [], laidByText := true, laidKinds := [.data, .pinned], laidTests := true, laidLooks := .later }
def FnExactWorstDriftCardSaid : Prop := Claim7.holds Tryd.pinned (.plain (OpenSpec.ofChange fnExactWorstDriftSpec)) fnExactWorstDriftCard

/-- THE TIED CARD OF 'laws.FnExactNodeTableBytes'. -/
def fnExactNodeTableBytesCard : Claim7 := { stood := { row := fnExactNodeTableBytesRow, standIns := [], harness := (true, "b4953994607c83ba6da66494e35707c320759e820881b15466508426a09fff6f"), looks := false }, kinds := [], alts := [], laidByText := true, laidKinds := [.data, .pinned], laidTests := true, laidLooks := .later }
def FnExactNodeTableBytesCardSaid : Prop := Claim7.holds Tryd.pinned (.plain (OpenSpec.ofChange fnExactNodeTableBytesSpec)) fnExactNodeTableBytesCard

/-- THE TIED CARD OF 'laws.FnNodeTables'. -/
def fnNodeTablesCard : Claim7 := { stood := { row := fnNodeTablesRow, standIns := [], harness := (true, "b4953994607c83ba6da66494e35707c320759e820881b15466508426a09fff6f"), looks := false }, kinds := [], alts := [], laidByText := true, laidKinds := [.data, .pinned], laidTests := true, laidLooks := .later }
def FnNodeTablesCardSaid : Prop := Claim7.holds Tryd.pinned (.plain (OpenSpec.ofChange fnNodeTablesSpec)) fnNodeTablesCard

/-- THE TIED CARD OF 'laws.FnActive'. -/
def fnActiveCard : Claim7 := { stood := { row := fnActiveRow, standIns := [], harness := (true, "b4953994607c83ba6da66494e35707c320759e820881b15466508426a09fff6f"), looks := false }, kinds := [], alts := [], laidByText := true, laidKinds := [.data, .pinned], laidTests := true, laidLooks := .later }
def FnActiveCardSaid : Prop := Claim7.holds Tryd.pinned (.plain (OpenSpec.ofChange fnActiveSpec)) fnActiveCard

/-- THE SECOND FORM's CARD OF 'laws.FnExactReadNodeTable'. -/
def fnExactReadNodeTableUptoCard : Claim7 := { stood := { row := fnExactReadNodeTableUptoRow, standIns := [], harness := (true, "b4953994607c83ba6da66494e35707c320759e820881b15466508426a09fff6f"), looks := false }, kinds := [], alts := [], laidByText := true, laidKinds := [.data, .pinned], laidTests := true, laidLooks := .later }
def FnExactReadNodeTableUptoCardSaid : Prop := Claim7.holds Tryd.pinned (.plain (OpenSpec.upto fnExactReadNodeTableSpec)) fnExactReadNodeTableUptoCard

/-- THE SECOND FORM's CARD OF 'laws.FnExactIsNodeInfo'. -/
def fnExactIsNodeInfoUptoCard : Claim7 := { stood := { row := fnExactIsNodeInfoUptoRow, standIns := [], harness := (true, "b4953994607c83ba6da66494e35707c320759e820881b15466508426a09fff6f"), looks := false }, kinds := [], alts := [], laidByText := true, laidKinds := [.data, .pinned], laidTests := true, laidLooks := .later }
def FnExactIsNodeInfoUptoCardSaid : Prop := Claim7.holds Tryd.pinned (.plain (OpenSpec.upto fnExactIsNodeInfoSpec)) fnExactIsNodeInfoUptoCard

/-- THE SECOND FORM's CARD OF 'laws.FnExactIsNodeTable'. -/
def fnExactIsNodeTableUptoCard : Claim7 := { stood := { row := fnExactIsNodeTableUptoRow, standIns := [], harness := (true, "b4953994607c83ba6da66494e35707c320759e820881b15466508426a09fff6f"), looks := false }, kinds := [], alts := [], laidByText := true, laidKinds := [.data, .pinned], laidTests := true, laidLooks := .later }
def FnExactIsNodeTableUptoCardSaid : Prop := Claim7.holds Tryd.pinned (.plain (OpenSpec.upto fnExactIsNodeTableSpec)) fnExactIsNodeTableUptoCard

/-- THE SECOND FORM's CARD OF 'laws.FnExactFindNode'. -/
def fnExactFindNodeUptoCard : Claim7 := { stood := { row := fnExactFindNodeUptoRow, standIns := [], harness := (true, "b4953994607c83ba6da66494e35707c320759e820881b15466508426a09fff6f"), looks := false }, kinds := [], alts := [], laidByText := true, laidKinds := [.data, .pinned], laidTests := true, laidLooks := .later }
def FnExactFindNodeUptoCardSaid : Prop := Claim7.holds Tryd.pinned (.plain (OpenSpec.upto fnExactFindNodeSpec)) fnExactFindNodeUptoCard

/-- THE SECOND FORM's CARD OF 'laws.FnExactActiveVector'. -/
def fnExactActiveVectorUptoCard : Claim7 := { stood := { row := fnExactActiveVectorUptoRow, standIns := [], harness := (true, "b4953994607c83ba6da66494e35707c320759e820881b15466508426a09fff6f"), looks := false }, kinds := [], alts := [], laidByText := true, laidKinds := [.data, .pinned], laidTests := true, laidLooks := .later }
def FnExactActiveVectorUptoCardSaid : Prop := Claim7.holds Tryd.pinned (.plain (OpenSpec.upto fnExactActiveVectorSpec)) fnExactActiveVectorUptoCard

/-- THE SECOND FORM's CARD OF 'laws.FnExactWorstDrift'. -/
def fnExactWorstDriftUptoCard : Claim7 := { stood := { row := fnExactWorstDriftUptoRow, standIns := [], harness := (true, "b4953994607c83ba6da66494e35707c320759e820881b15466508426a09fff6f"), looks := false }, kinds := [], alts := [], laidByText := true, laidKinds := [.data, .pinned], laidTests := true, laidLooks := .later }
def FnExactWorstDriftUptoCardSaid : Prop := Claim7.holds Tryd.pinned (.plain (OpenSpec.upto fnExactWorstDriftSpec)) fnExactWorstDriftUptoCard

/-- THE SECOND FORM's CARD OF 'laws.FnExactNodeTableBytes'. -/
def fnExactNodeTableBytesUptoCard : Claim7 := { stood := { row := fnExactNodeTableBytesUptoRow, standIns := [], harness := (true, "b4953994607c83ba6da66494e35707c320759e820881b15466508426a09fff6f"), looks := false }, kinds := [], alts := [], laidByText := true, laidKinds := [.data, .pinned], laidTests := true, laidLooks := .later }
def FnExactNodeTableBytesUptoCardSaid : Prop := Claim7.holds Tryd.pinned (.plain (OpenSpec.upto fnExactNodeTableBytesSpec)) fnExactNodeTableBytesUptoCard

/-- THE SECOND FORM's CARD OF 'laws.FnNodeTables'. -/
def fnNodeTablesUptoCard : Claim7 := { stood := { row := fnNodeTablesUptoRow, standIns := [], harness := (true, "b4953994607c83ba6da66494e35707c320759e820881b15466508426a09fff6f"), looks := false }, kinds := [], alts := [], laidByText := true, laidKinds := [.data, .pinned], laidTests := true, laidLooks := .later }
def FnNodeTablesUptoCardSaid : Prop := Claim7.holds Tryd.pinned (.plain (OpenSpec.upto fnNodeTablesSpec)) fnNodeTablesUptoCard

/-- THE SECOND FORM's CARD OF 'laws.FnActive'. -/
def fnActiveUptoCard : Claim7 := { stood := { row := fnActiveUptoRow, standIns := [], harness := (true, "b4953994607c83ba6da66494e35707c320759e820881b15466508426a09fff6f"), looks := false }, kinds := [], alts := [], laidByText := true, laidKinds := [.data, .pinned], laidTests := true, laidLooks := .later }
def FnActiveUptoCardSaid : Prop := Claim7.holds Tryd.pinned (.plain (OpenSpec.upto fnActiveSpec)) fnActiveUptoCard
end Rows
end Go.Proofs.YtgenfffgenddmaaDoor

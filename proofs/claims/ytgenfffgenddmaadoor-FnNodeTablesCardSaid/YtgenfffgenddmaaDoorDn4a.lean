/- The draws of FindNode's and WorstDrift's arguments. -/
import Derived.Test.YtgenfffgenddmaaDoorDn3
namespace Go.Proofs.YtgenfffgenddmaaDoor
open Go.RowKit
set_option linter.unusedSimpArgs false
set_option linter.unusedVariables false
theorem NS.nodes {w W : World} {B g : Nat} {v : Value} {L : List Nd} (h : NS w B g W v L) (hn : L.length ≤ 7) (hnm : nmSm L) : ∃ A n c, v = .slice A n c ∧ NodesAt W W.heap.size A n c L := by
  obtain ⟨A, c, rfl, hN⟩ := h.o.nodes (by omega) (fun k d hd => by have := hnm d (List.mem_of_getElem? hd); omega)
  exact ⟨A, L.length, c, rfl, hN⟩
theorem NS.under {w0 w W : World} {B g : Nat} {v : Value} {L : List Nd} (h : NS w B g W v L) (hb : Below w0.heap.size w0 w) (hg : w0.heap.size ≤ g) : Below w0.heap.size w0 W := src_below' hb h.gr hg
def DrewN (w : World) (e : Ending) (w' : World) : Prop := ∃ (A : Option Addr) (n c : Nat) (L : List Nd) (y : Int), e = .returned (.tuple #[.slice A n c, .int .i64 y]) ∧ NodesAt w' w'.heap.size A n c L ∧ n ≤ 7 ∧ Below w.heap.size w w'
set_option maxRecDepth 100000 in
theorem s_DrawFindNode (A : Option Addr) (n c : Nat) (bs : List Int) (B : Nat) (w : World) (h : BytesAt w B A n c bs) (hB : B ≤ w.heap.size) :
    Calls Tryd.prog 44 #[.slice A n c] w (DrewN w) := by
  go_enter Tryd.func44, Tryd.ntmps44
  go_wp2_with fail
  refine (s_l01From _ _ _ _ _ _ h hB).mono ?_
  rintro e w1 ⟨g, rfl, S1, hg, hb⟩
  have hl := S1.lt
  go_wp2_with fail
  refine (s_l10DrawAny g B _ S1).mono ?_
  rintro e w2 ⟨v, L, rfl, N2, l1, l2, hnm⟩
  go_wp2_with fail
  refine (s_l01Next g B 8 _ N2.s).mono ?_
  rintro e w3 ⟨y, rfl, y0, y1, S3, g3⟩
  have N3 := N2.next hl S3 g3
  obtain ⟨A', n', c', rfl, HN⟩ := N3.nodes (by omega) hnm
  go_wp2
  go_ret2
  exact ⟨_, _, _, L, _, rfl, HN, by rw [← HN.1]; omega, N3.under hb hg⟩
end Go.Proofs.YtgenfffgenddmaaDoor

/- An argument that is a node, or a list of nodes, taken apart. -/
import Derived.Test.YtgenfffgenddmaaDoorOpen
import Derived.Test.YtgenfffgenddmaaDoorNod
import Derived.Deep.Slices
import Derived.ChangeOld
namespace Go.Proofs.YtgenfffgenddmaaDoor
open Go.Joins Go.ChangeShapes Go.WideShapes Go.RowKit Go.Deep
set_option linter.unusedSimpArgs false
set_option linter.unusedVariables false
set_option maxRecDepth 20000 in
theorem node_of_cells {H : Type} {enc : TypeId × Value → H} {w : World} {base : Nat} {spare : Nat → Bool} {held : Bool} {fuel : Nat} {cs : List Value} {x : DataW H × List MemPlace}
    (h : DataW.trod enc Tryd.prog w base spare held fuel 33 cs = some x) : ∃ d : Nd, cs = d.cells.toList ∧ d.nm.size ≤ maxLen := by
  obtain ⟨xs, n, _, _, hl, hlen, hg⟩ := DataW.trod_struct Tryd.underlying33 h
  have e1 : Tryd.prog.cellsOf 2 = 1 := by kernel_rfl
  have e9 : Tryd.prog.cellsOf 9 = 1 := by kernel_rfl
  have eB : Tryd.prog.cellsOf 4 = 1 := by kernel_rfl
  obtain ⟨c0, c1, c2, c3, rfl⟩ := list4 (hl.trans (by kernel_rfl))
  have t0 := hg 0 _ rfl
  have t1 := hg 1 _ rfl
  have t2 := hg 2 _ rfl
  have t3 := hg 3 _ rfl
  have hx : xs.length = 4 := hlen
  obtain ⟨y0, y1, y2, y3, rfl⟩ := list4 hx
  simp [e1, e9, eB] at t0 t1 t2 t3
  obtain ⟨a, ga, _, _⟩ := DataW.trod_int Tryd.underlying2 t0
  obtain ⟨s, gs, _, hs⟩ := DataW.trod_string Tryd.underlying9 t1
  obtain ⟨r, gr, _, _⟩ := DataW.trod_int Tryd.underlying2 t2
  obtain ⟨p, gp, _⟩ := DataW.trod_bool Tryd.underlying4 t3
  simp at ga gs gr gp
  subst ga gs gr gp
  exact ⟨⟨a, s, r, p⟩, rfl, hs⟩
set_option maxRecDepth 20000 in
theorem open_node {H : Type} {enc : TypeId × Value → H} {w : World} {base : Nat} {spare : Nat → Bool} {held : Bool} {r : Reach} {b0 : Nat} {v : Value} {d : DataW H} {p : List MemPlace}
    (hv : Value.okWide Tryd.prog w r b0 33 v) (h : DataW.Trod enc Tryd.prog w base spare held 33 v d p) :
    ∃ e : Nd, v = .agg e.cells ∧ e.nm.size ≤ maxLen := by
  obtain ⟨cs, rfl, hsz⟩ := okWide_struct Tryd.underlying33 hv
  obtain ⟨fuel, h⟩ := h
  obtain ⟨e, he, hs⟩ := node_of_cells h
  refine ⟨e, ?_, hs⟩
  have : cs.toList = e.cells.toList := he
  rw [Array.toList_inj.1 this]
end Go.Proofs.YtgenfffgenddmaaDoor

/- An argument that is a node, or a list of nodes, taken apart. -/
import Derived.Test.YtgenfffgenddmaaDoorOpen
import Derived.Test.YtgenfffgenddmaaDoorNod3
import Derived.Deep.Slices
import Derived.ChangeOld
namespace Go.Proofs.YtgenfffgenddmaaDoor
open Go.Joins Go.ChangeShapes Go.WideShapes Go.RowKit Go.Deep
set_option linter.unusedSimpArgs false
set_option linter.unusedVariables false
set_option maxRecDepth 20000 in
theorem node_of_cells {H : Type} {enc : TypeId × Value → H} {w : World} {base : Nat} {spare : Nat → Bool} {held : Bool} {fuel : Nat} {cs : List Value} {x : DataW H × List MemPlace}
    (h : DataW.trod enc Tryd.prog w base spare held fuel 33 cs = some x) : ∃ d : Nd, cs = d.cells.toList ∧ d.nm.size ≤ maxLen := by
  obtain ⟨xs, n, _, _, hl, hlen, hg⟩ := DataW.trod_struct Tryd.underlying33 h
  have e1 : Tryd.prog.cellsOf 2 = 1 := by kernel_rfl
  have e9 : Tryd.prog.cellsOf 9 = 1 := by kernel_rfl
  have eB : Tryd.prog.cellsOf 4 = 1 := by kernel_rfl
  obtain ⟨c0, c1, c2, c3, rfl⟩ := list4 (hl.trans (by kernel_rfl))
  have t0 := hg 0 _ rfl
  have t1 := hg 1 _ rfl
  have t2 := hg 2 _ rfl
  have t3 := hg 3 _ rfl
  have hx : xs.length = 4 := hlen
  obtain ⟨y0, y1, y2, y3, rfl⟩ := list4 hx
  simp [e1, e9, eB] at t0 t1 t2 t3
  obtain ⟨a, ga, _, _⟩ := DataW.trod_int Tryd.underlying2 t0
  obtain ⟨s, gs, _, hs⟩ := DataW.trod_string Tryd.underlying9 t1
  obtain ⟨r, gr, _, _⟩ := DataW.trod_int Tryd.underlying2 t2
  obtain ⟨p, gp, _⟩ := DataW.trod_bool Tryd.underlying4 t3
  simp at ga gs gr gp
  subst ga gs gr gp
  exact ⟨⟨a, s, r, p⟩, rfl, hs⟩
set_option maxRecDepth 20000 in
theorem open_node {H : Type} {enc : TypeId × Value → H} {w : World} {base : Nat} {spare : Nat → Bool} {held : Bool} {r : Reach} {b0 : Nat} {v : Value} {d : DataW H} {p : List MemPlace}
    (hv : Value.okWide Tryd.prog w r b0 33 v) (h : DataW.Trod enc Tryd.prog w base spare held 33 v d p) :
    ∃ e : Nd, v = .agg e.cells ∧ e.nm.size ≤ maxLen := by
  obtain ⟨cs, rfl, hsz⟩ := okWide_struct Tryd.underlying33 hv
  obtain ⟨fuel, h⟩ := h
  obtain ⟨e, he, hs⟩ := node_of_cells h
  refine ⟨e, ?_, hs⟩
  have : cs.toList = e.cells.toList := he
  rw [Array.toList_inj.1 this]
theorem list_of {α : Type} {P : Nat → α → Prop} : ∀ n : Nat, (∀ i, i < n → ∃ x, P i x) → ∃ L : List α, L.length = n ∧ ∀ (k : Nat) (e : α), L[k]? = some e → P k e
  | 0, _ => ⟨[], rfl, fun k e h => by simp at h⟩
  | n + 1, h => by
    obtain ⟨L, hl, hL⟩ := list_of n (fun i hi => h i (by omega))
    obtain ⟨x, hx⟩ := h n (by omega)
    refine ⟨L ++ [x], by simp [hl], fun k e he => ?_⟩
    by_cases hk : k < L.length
    · rw [List.getElem?_append_left hk] at he
      exact hL k e he
    · rw [List.getElem?_append_right (by omega)] at he
      obtain ⟨hk', rfl⟩ := List.getElem?_eq_some_iff.1 he
      simp at hk'
      have : k = n := by omega
      subst this
      simpa [hl] using hx
set_option maxRecDepth 20000 in
theorem open_nodes {H : Type} {enc : TypeId × Value → H} {w : World} {base : Nat} {held : Bool} {r : Reach} {b0 : Nat} {v : Value} {d : DataW H} {p : List MemPlace}
    (hv : Value.okWide Tryd.prog w r b0 39 v) (h : DataW.Trod enc Tryd.prog w base (fun _ => true) held 39 v d p) :
    ∃ (A : Option Addr) (n c : Nat) (L : List Nd), v = .slice A n c ∧ ArgNodes w A n c L := by
  obtain ⟨A, n, c, rfl⟩ := okWide_slice Tryd.underlying39 hv
  obtain ⟨fuel, h⟩ := h
  rcases open_slice Tryd.underlying39 h with ⟨hcs, _⟩ | ⟨a, len, cap, m, q, D, Pl, hcs, hb, hl, hm, hmm, hx, hi⟩
  · simp [Value.cells] at hcs
    obtain ⟨rfl, rfl, rfl⟩ := hcs
    exact ⟨_, _, _, [], rfl, rfl, Nat.le_refl _, by unfold maxLen; omega, fun h => by omega⟩
  · simp [Value.cells] at hcs
    obtain ⟨rfl, rfl, rfl⟩ := hcs
    have e4 : Tryd.prog.cellsOf 33 = 4 := by kernel_rfl
    rw [e4] at hi
    simp at hmm
    obtain ⟨L, hL, hP⟩ := list_of (P := fun k (e : Nd) => a.block < w.heap.size ∧ ndCells w a k e ∧ e.nm.size ≤ maxLen) n (fun i hin => by
      obtain ⟨cs', hc, ht⟩ := hi i (by omega)
      obtain ⟨_, hcl, hat⟩ := World.cells?_some hc
      obtain ⟨e, he, hs⟩ := node_of_cells ht
      obtain ⟨x0, x1, x2, x3, rfl⟩ := list4 hcl
      simp [Nd.cells] at he
      obtain ⟨rfl, rfl, rfl, rfl⟩ := he
      have c0 := hat 0 (by omega)
      have c1 := hat 1 (by omega)
      have c2 := hat 2 (by omega)
      have c3 := hat 3 (by omega)
      refine ⟨e, ?_, ⟨?_, ?_, ?_, ?_⟩, hs⟩
      · have := cell_lt c0
        rwa [block_add, block_add] at this
      · simpa [add_add'] using c0
      · rw [add_add', add_off _ _ _ (by omega)] at c1; exact c1
      · rw [add_add', add_off _ _ _ (by omega)] at c2; exact c2
      · rw [add_add', add_off _ _ _ (by omega)] at c3; exact c3)
    refine ⟨_, _, _, L, rfl, hL, hl, hm, fun h0 => ⟨a, rfl, ?_, fun k e he => (hP k e he).2⟩⟩
    exact (hP 0 _ (List.getElem?_eq_getElem (by omega))).1
end Go.Proofs.YtgenfffgenddmaaDoor

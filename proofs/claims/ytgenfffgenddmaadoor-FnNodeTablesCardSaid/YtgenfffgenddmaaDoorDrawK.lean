/- The draws of BodySize's and KindOfHead's arguments. -/
import Derived.Test.YtgenfffgenddmaaDoorDraw
import Derived.Deep.RegionHeld3
import Derived.RegionTactic
import Derived.Deep.Cut
namespace Go.Proofs.YtgenfffgenddmaaDoor
open Go.RowKit
set_option linter.unusedSimpArgs false
set_option linter.unusedVariables false
theorem Src.drew {w : World} {B g : Nat} (h : Src w B g) : Src w.drew B g := h
theorem Below.ltK {w : World} {g : Nat} {o : Obj} (h : w.heap[g]? = some o) : g < w.heap.size := by
  rcases Nat.lt_or_ge g w.heap.size with hlt | hge
  · exact hlt
  · rw [Array.getElem?_eq_none hge] at h; cases h
theorem nat_of' (m : Int) (h0 : 0 ≤ m) : ∃ a : Nat, m = a := ⟨m.toNat, by omega⟩
theorem src_below' {w w1 w2 : World} {g : Nat} (hb : Below w.heap.size w w1) (hg : w1.grownBy w2 (some g)) (hgg : w.heap.size ≤ g) : Below w.heap.size w w2 :=
  hb.trans (grown_below hg hb.size (fun k hk => by injection hk with hk; omega))
theorem results_pair {fn : Func} {t u : Tmp} (h : fn.results = #[.tmp t, .tmp u]) (tmps : Array Value) (P : Program) (w : World) :
    (results fn tmps).run P w = .ok (.tuple #[tmps.getD t undef, tmps.getD u undef]) w := by simp [results, h]
theorem znew {w w' : World} {o : Obj} {g : Nat} (hg : (w.alloc o).grownBy w' (some g)) (hl : g < w.heap.size) : w'.heap[w.heap.size]? = some o :=
  (hg.block w.heap.size (by simp) (by intro e; injection e with e; omega)).trans (heap_alloc_new w o)
theorem znew_d {w w' : World} {o : Obj} {g : Nat} (hg : (w.alloc o).drew.grownBy w' (some g)) (hl : g < w.heap.size) : w'.heap[w.heap.size]? = some o :=
  znew (w := w) (o := o) ⟨hg.os, hg.tape, hg.output, hg.size, hg.block⟩ hl
theorem znew_d2 {w w' : World} {o : Obj} {g : Nat} (hg : (w.drew.alloc o).grownBy w' (some g)) (hl : g < w.heap.size) : w'.heap[w.heap.size]? = some o :=
  znew (w := w) (o := o) ⟨hg.os, hg.tape, hg.output, hg.size, hg.block⟩ hl
theorem znew_d3 {w w' : World} {o : Obj} {g : Nat} (hg : (w.drew.alloc o).drew.grownBy w' (some g)) (hl : g < w.heap.size) : w'.heap[w.heap.size]? = some o :=
  znew (w := w) (o := o) ⟨hg.os, hg.tape, hg.output, hg.size, hg.block⟩ hl
theorem zkeep {w w' : World} {o : Obj} {b g : Nat} (z : w.heap[b]? = some o) (hg : w.grownBy w' (some g)) (hl : g ≠ b) : w'.heap[b]? = some o :=
  (hg.block b (Below.ltK z) (by intro e; injection e with e; exact hl e.symm)).trans z
theorem zkeep_d {w w' : World} {o : Obj} {b g : Nat} (z : w.heap[b]? = some o) (hg : w.drew.grownBy w' (some g)) (hl : g ≠ b) : w'.heap[b]? = some o :=
  zkeep z ⟨hg.os, hg.tape, hg.output, hg.size, hg.block⟩ hl
end Go.Proofs.YtgenfffgenddmaaDoor

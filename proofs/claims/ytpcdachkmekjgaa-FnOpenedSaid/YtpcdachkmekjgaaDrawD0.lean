/- What the draws of frames share. -/
import Derived.Test.YtpcdachkmekjgaaDrawK
import Derived.Test.YtpcdachkmekjgaaFrmH
import Derived.Test.YtpcdachkmekjgaaEmpH2
import Derived.Test.YtpcdachkmekjgaaFFI
import Derived.Deep.Cut
namespace Go.Proofs.Ytpcdachkmekjgaa
open Go.RowKit
set_option linter.unusedSimpArgs false
set_option linter.unusedVariables false
theorem s_l06Data (k : Int) (w : World) : Calls Try.prog 95 #[.int .i64 k] w fun e w' => e = .returned (.bool (k == 0 || k == 2)) ∧ w = w' := by
  cases h0 : (k == 0)
  · cases h2 : (k == 2)
    all_goals
      go_enter Try.func95, Try.ntmps95
      go_wp2
      go_ret
      exact ⟨rfl, rfl⟩
  · go_enter Try.func95, Try.ntmps95
    go_wp2
    go_ret
    exact ⟨rfl, rfl⟩
theorem s_l06State (k : Int) (w : World) : Calls Try.prog 88 #[.int .i64 k] w fun e w' => e = .returned (.bool (k != 0)) ∧ w = w' := by
  go_enter Try.func88, Try.ntmps88
  go_wp2
  go_ret
  exact ⟨rfl, rfl⟩
theorem src_set {w : World} {B g b : Nat} (h : Src w B g) (hb : b ≠ g) (hB : B ≤ b) (k : Nat) (v : Value) : Src (w.setCell ⟨b, k, none⟩ v) B g :=
  h.kept (grown_set (p := ⟨b, k, none⟩) (World.grownBy.refl _ _) (.inl rfl) v) (by intro e; injection e with e; exact hb e) (fun q hq => Nat.le_trans hB (Nat.le_of_eq (by simpa using hq)))
theorem set2 {w : World} {b : Nat} {u0 u1 u2 u3 u4 v : Value} {t : TypeId} (h : w.heap[b]? = some (.cells #[u0, u1, u2, u3, u4] t (0, 0))) : (w.setCell ⟨b, 2, none⟩ v).heap[b]? = some (.cells #[u0, u1, v, u3, u4] t (0, 0)) := by simpa using heap_setCell_same _ b 2 _ _ v h
theorem set3 {w : World} {b : Nat} {u0 u1 u2 u3 u4 v : Value} {t : TypeId} (h : w.heap[b]? = some (.cells #[u0, u1, u2, u3, u4] t (0, 0))) : (w.setCell ⟨b, 3, none⟩ v).heap[b]? = some (.cells #[u0, u1, u2, v, u4] t (0, 0)) := by simpa using heap_setCell_same _ b 3 _ _ v h
theorem set4 {w : World} {b : Nat} {u0 u1 u2 u3 u4 v : Value} {t : TypeId} (h : w.heap[b]? = some (.cells #[u0, u1, u2, u3, u4] t (0, 0))) : (w.setCell ⟨b, 4, none⟩ v).heap[b]? = some (.cells #[u0, u1, u2, u3, v] t (0, 0)) := by simpa using heap_setCell_same _ b 4 _ _ v h
theorem set1 {w : World} {b : Nat} {u0 u1 u2 u3 u4 v : Value} {t : TypeId} (h : w.heap[b]? = some (.cells #[u0, u1, u2, u3, u4] t (0, 0))) : (w.setCell ⟨b, 1, none⟩ v).heap[b]? = some (.cells #[u0, v, u2, u3, u4] t (0, 0)) := by simpa using heap_setCell_same _ b 1 _ _ v h
theorem set0 {w : World} {b : Nat} {u0 u1 u2 u3 u4 v : Value} {t : TypeId} (h : w.heap[b]? = some (.cells #[u0, u1, u2, u3, u4] t (0, 0))) : (w.setCell ⟨b, 0, none⟩ v).heap[b]? = some (.cells #[v, u1, u2, u3, u4] t (0, 0)) := by simpa using heap_setCell_same _ b 0 _ _ v h
theorem five_heap {w : World} {g : Nat} {u0 u1 u2 u3 u4 v0 v1 v2 v3 v4 : Value} {t : TypeId} (h : w.heap[g]? = some (.cells #[u0, u1, u2, u3, u4] t (0, 0))) :
    (((((w.setCell ⟨g, 0, none⟩ v0).setCell ⟨g, 1, none⟩ v1).setCell ⟨g, 2, none⟩ v2).setCell ⟨g, 3, none⟩ v3).setCell ⟨g, 4, none⟩ v4).heap[g]? = some (.cells #[v0, v1, v2, v3, v4] t (0, 0)) := by
  simpa using heap_setCell_same _ g 4 _ _ v4 (heap_setCell_same _ g 3 _ _ v3 (heap_setCell_same _ g 2 _ _ v2 (heap_setCell_same _ g 1 _ _ v1 (heap_setCell_same _ g 0 _ _ v0 h))))
theorem five_other {w : World} {g h : Nat} {v0 v1 v2 v3 v4 : Value} (hn : h ≠ g) :
    (((((w.setCell ⟨g, 0, none⟩ v0).setCell ⟨g, 1, none⟩ v1).setCell ⟨g, 2, none⟩ v2).setCell ⟨g, 3, none⟩ v3).setCell ⟨g, 4, none⟩ v4).heap[h]? = w.heap[h]? := by
  rw [heap_setCell_other _ _ _ _ hn, heap_setCell_other _ _ _ _ hn, heap_setCell_other _ _ _ _ hn, heap_setCell_other _ _ _ _ hn, heap_setCell_other _ _ _ _ hn]
theorem own_of_row {W : World} {base g : Nat} (n : Nat) (hn : n ≤ 1000000) (hb : base ≤ g) (h : W.heap[g]? = some (Obj.cells ((List.replicate n 0).map (Value.int .i64)).toArray 2)) :
    IOwn W base (.slice (some ⟨g, 0, none⟩) n n) (List.replicate n 0) := by
  unfold IOwn
  rw [List.length_replicate]
  refine ⟨by simp, .inr ⟨g, n, _, rfl, hb, h, Nat.le_refl _, by unfold maxLen; omega, by simp, by simp⟩⟩
theorem make_run (n : Nat) (hn : n ≤ 1000000) (w : World) :
    (Instr.makeSlice 24 (.int .i64 (n : Int)) (.int .i64 (n : Int))).run Try.prog w = .ok (.slice (some ⟨w.heap.size, 0, none⟩) n n) (w.alloc (.cells ((List.replicate n 0).map (Value.int .i64)).toArray 2)) := by
  obtain ⟨i0, hi, hz0, hz1, hz2⟩ := info_parts int_info
  have h := run_make (P := Try.prog) w 24 2 i0 (.int .i64 0) Try.underlying24 hi hz0 .i64 .i64 (n : Int) (n : Int) (by omega) (Int.le_refl _) (by rw [hz2]; omega) (by omega)
  rw [h, Int.toNat_natCast, hz1, Nat.mul_one]
  have e : madeCells (Value.int .i64 0).cells n = ((List.replicate n 0).map (Value.int .i64)).toArray := by
    apply Array.ext'
    rw [show (Value.int IntKind.i64 0).cells = #[Value.int .i64 0] from rfl, toList_madeCells_one]
    simp
  rw [e]
theorem row_get {w : World} {b q : Nat} {xs : Array Value} {t : TypeId} {x : Value} (h : w.heap[b]? = some (.cells xs t (0, 0))) (hx : xs[q]? = some x) : w.cell? ⟨b, q, none⟩ = some x := (cell_of_row _ _ _ _ _ _ h).trans hx
theorem Below.lt_of {w : World} {g : Nat} {o : Obj} (h : w.heap[g]? = some o) : g < w.heap.size := by
  rcases Nat.lt_or_ge g w.heap.size with hlt | hge
  · exact hlt
  · rw [Array.getElem?_eq_none hge] at h; cases h
theorem eight_other {w : World} {g h : Nat} {v0 v1 v2 v3 v4 v5 v6 v7 : Value} (hn : h ≠ g) :
    ((((((((w.setCell ⟨g, 0, none⟩ v0).setCell ⟨g, 1, none⟩ v1).setCell ⟨g, 2, none⟩ v2).setCell ⟨g, 3, none⟩ v3).setCell ⟨g, 4, none⟩ v4).setCell ⟨g, 5, none⟩ v5).setCell ⟨g, 6, none⟩ v6).setCell ⟨g, 7, none⟩ v7).heap[h]? = w.heap[h]? := by
  rw [heap_setCell_other _ _ _ _ hn, heap_setCell_other _ _ _ _ hn, heap_setCell_other _ _ _ _ hn, heap_setCell_other _ _ _ _ hn, heap_setCell_other _ _ _ _ hn, heap_setCell_other _ _ _ _ hn, heap_setCell_other _ _ _ _ hn, heap_setCell_other _ _ _ _ hn]
theorem IOwn.setO {w : World} {base : Nat} {v : Value} {xs : List Int} (h : IOwn w base v xs) {g k : Nat} (hg : v.ownBlock ≠ some g) (u : Value) : IOwn (w.setCell ⟨g, k, none⟩ u) base v xs := ownsRow_setCell_other h hg u
theorem IOwn.eightO {w : World} {base : Nat} {v : Value} {xs : List Int} (h : IOwn w base v xs) {g : Nat} (hg : v.ownBlock ≠ some g) (v0 v1 v2 v3 v4 v5 v6 v7 : Value) :
    IOwn ((((((((w.setCell ⟨g, 0, none⟩ v0).setCell ⟨g, 1, none⟩ v1).setCell ⟨g, 2, none⟩ v2).setCell ⟨g, 3, none⟩ v3).setCell ⟨g, 4, none⟩ v4).setCell ⟨g, 5, none⟩ v5).setCell ⟨g, 6, none⟩ v6).setCell ⟨g, 7, none⟩ v7) base v xs :=
  (((((((h.setO hg _).setO hg _).setO hg _).setO hg _).setO hg _).setO hg _).setO hg _).setO hg _
theorem desc_cells {w : World} {g : Nat} {a b c d e : Value} {t : TypeId} (h : w.heap[g]? = some (.cells #[a, b, c, d, e] t (0, 0))) :
    w.cell? ⟨g, 0, none⟩ = some a ∧ w.cell? ⟨g, 1, none⟩ = some b ∧ w.cell? ⟨g, 2, none⟩ = some c ∧ w.cell? ⟨g, 3, none⟩ = some d ∧ w.cell? ⟨g, 4, none⟩ = some e :=
  ⟨cell_of_row _ _ _ _ _ _ h, cell_of_row _ _ _ _ _ _ h, cell_of_row _ _ _ _ _ _ h, cell_of_row _ _ _ _ _ _ h, cell_of_row _ _ _ _ _ _ h⟩
theorem bne_of {a b : Int} (h : (a == b) = false) : (a != b) = true := by rw [bne, h]; rfl
end Go.Proofs.Ytpcdachkmekjgaa

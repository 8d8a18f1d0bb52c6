/- Contracts of spec.l08From and of DescriptorFromBytes. -/
import Derived.Test.YtecelofoffdjlaaDesc3
namespace Go.Proofs.Ytecelofoffdjlaa
open Go.RowKit
set_option linter.unusedSimpArgs false
set_option linter.unusedVariables false
theorem Below.lt_of {w : World} {g : Nat} {o : Obj} (h : w.heap[g]? = some o) : g < w.heap.size := by
  rcases Nat.lt_or_ge g w.heap.size with hlt | hge
  · exact hlt
  · rw [Array.getElem?_eq_none hge] at h; cases h
theorem five_heap {w : World} {g : Nat} {u0 u1 u2 u3 u4 v0 v1 v2 v3 v4 : Value} {t : TypeId} (h : w.heap[g]? = some (.cells #[u0, u1, u2, u3, u4] t (0, 0))) :
    (((((w.setCell ⟨g, 0, none⟩ v0).setCell ⟨g, 1, none⟩ v1).setCell ⟨g, 2, none⟩ v2).setCell ⟨g, 3, none⟩ v3).setCell ⟨g, 4, none⟩ v4).heap[g]? = some (.cells #[v0, v1, v2, v3, v4] t (0, 0)) := by
  simpa using heap_setCell_same _ g 4 _ _ v4 (heap_setCell_same _ g 3 _ _ v3 (heap_setCell_same _ g 2 _ _ v2 (heap_setCell_same _ g 1 _ _ v1 (heap_setCell_same _ g 0 _ _ v0 h))))
theorem five_other {w : World} {g h : Nat} {v0 v1 v2 v3 v4 : Value} (hn : h ≠ g) :
    (((((w.setCell ⟨g, 0, none⟩ v0).setCell ⟨g, 1, none⟩ v1).setCell ⟨g, 2, none⟩ v2).setCell ⟨g, 3, none⟩ v3).setCell ⟨g, 4, none⟩ v4).heap[h]? = w.heap[h]? := by
  rw [heap_setCell_other _ _ _ _ hn, heap_setCell_other _ _ _ _ hn, heap_setCell_other _ _ _ _ hn, heap_setCell_other _ _ _ _ hn, heap_setCell_other _ _ _ _ hn]
theorem IntsAt.five {w : World} {B : Nat} {A : Option Addr} {n c : Nat} {xs : List Int} (h : IntsAt w B A n c xs) {g : Nat} (hg : B ≤ g) {v0 v1 v2 v3 v4 : Value} :
    IntsAt (((((w.setCell ⟨g, 0, none⟩ v0).setCell ⟨g, 1, none⟩ v1).setCell ⟨g, 2, none⟩ v2).setCell ⟨g, 3, none⟩ v3).setCell ⟨g, 4, none⟩ v4) B A n c xs :=
  ((((h.setCell hg _).setCell hg _).setCell hg _).setCell hg _).setCell hg _
set_option maxHeartbeats 4000000 in
set_option maxRecDepth 8000 in
theorem s_l08From (ad : Addr) (c : Nat) (x0 x1 x2 x3 x4 : Int) (B : Nat) (w : World) (hadb : ad.block < B) (hB : B ≤ w.heap.size) (hc : 5 ≤ c)
    (c0 : w.cell? ad = some (.int .i64 x0)) (c1 : w.cell? { block := ad.block, off := ad.off + 1 } = some (.int .i64 x1)) (c2 : w.cell? { block := ad.block, off := ad.off + 2 } = some (.int .i64 x2)) (c3 : w.cell? { block := ad.block, off := ad.off + 3 } = some (.int .i64 x3)) (c4 : w.cell? { block := ad.block, off := ad.off + 4 } = some (.int .i64 x4))
    (hI : IntsAt w B (some ad) 5 c [x0, x1, x2, x3, x4]) (k sz du : Int) (ch : Bool) (E1 : Hid (IntKind.i64.wrap (x1.tdiv 64) = k)) (E2 : Hid (x1.tmod 64 = sz)) (E3 : Hid (IntKind.i64.wrap (IntKind.i64.wrap (256 * x2) + x3) = du)) (E4 : Hid ((x4 == 1) = ch)) :
    Calls Try.prog 70 #[.slice (some ad) 5 c] w fun e w' => e = .returned (.tuple #[.agg #[.int .i64 x0, .int .i64 k, .int .i64 sz, .int .i64 du, .bool ch], .bool (descOk x0 k sz du ch && eqL (descL x0 k sz du ch) [x0, x1, x2, x3, x4])]) ∧ Below w.heap.size w w' := by
  have n1 : w.heap.size ≠ ad.block := by omega
  go_enter Try.func70, Try.ntmps70
  go_wp2
  go_region_held3 (fun w' => w'.cell? ad = some (.int .i64 x0) ∧ w'.cell? { block := ad.block, off := ad.off + 1 } = some (.int .i64 x1) ∧ w'.cell? { block := ad.block, off := ad.off + 2 } = some (.int .i64 x2) ∧ w'.cell? { block := ad.block, off := ad.off + 3 } = some (.int .i64 x3) ∧ w'.cell? { block := ad.block, off := ad.off + 4 } = some (.int .i64 x4)) (go_keep) (fail)
  go_wp2
  simp only [E1.out, E2.out, E3.out, E4.out]
  have bR : ((w.alloc (.cells #[.int .i64 0, .int .i64 0, .int .i64 0, .int .i64 0, .bool false] 26)).alloc (.cells #[.int .i64 x0, .int .i64 k, .int .i64 sz, .int .i64 du, .bool ch] 26)).heap[w.heap.size]? = some (.cells #[.int .i64 0, .int .i64 0, .int .i64 0, .int .i64 0, .bool false] 26 (0, 0)) :=
    (Below.heap_alloc _ _ _ (by simp)).trans (heap_alloc_new w _)
  have bD : ((w.alloc (.cells #[.int .i64 0, .int .i64 0, .int .i64 0, .int .i64 0, .bool false] 26)).alloc (.cells #[.int .i64 x0, .int .i64 k, .int .i64 sz, .int .i64 du, .bool ch] 26)).heap[w.heap.size + 1]? = some (.cells #[.int .i64 x0, .int .i64 k, .int .i64 sz, .int .i64 du, .bool ch] 26 (0, 0)) := by
    have := heap_alloc_new (w.alloc (.cells #[.int .i64 0, .int .i64 0, .int .i64 0, .int .i64 0, .bool false] 26)) (.cells #[.int .i64 x0, .int .i64 k, .int .i64 sz, .int .i64 du, .bool ch] 26)
    simpa using this
  have BW : Below w.heap.size w ((w.alloc (.cells #[.int .i64 0, .int .i64 0, .int .i64 0, .int .i64 0, .bool false] 26)).alloc (.cells #[.int .i64 x0, .int .i64 k, .int .i64 sz, .int .i64 du, .bool ch] 26)) := ((Below.refl _ _).alloc (Nat.le_refl _) _).alloc (by simp) _
  have zW : w.heap.size + 2 ≤ ((w.alloc (.cells #[.int .i64 0, .int .i64 0, .int .i64 0, .int .i64 0, .bool false] 26)).alloc (.cells #[.int .i64 x0, .int .i64 k, .int .i64 sz, .int .i64 du, .bool ch] 26)).heap.size := by simp
  generalize (w.alloc (.cells #[.int .i64 0, .int .i64 0, .int .i64 0, .int .i64 0, .bool false] 26)).alloc (.cells #[.int .i64 x0, .int .i64 k, .int .i64 sz, .int .i64 du, .bool ch] 26) = W at bR bD BW zW ⊢
  have e4 : W.cell? { block := ad.block, off := ad.off + 4 } = some (.int .i64 x4) := by rw [BW.cell (p := { block := ad.block, off := ad.off + 4 }) (show ad.block < w.heap.size by omega)]; exact c4
  obtain ⟨d0, d1, d2, d3, d4⟩ := desc_cells bD
  have BR := Lib.hid bR; have BD := Lib.hid bD
  have nb : ad.block < W.heap.size := by omega
  have hc0 : ∀ W' : World, (∃ N, W' = W.drewN N) → Calls Try.prog 57 #[.agg #[.int .i64 x0, .int .i64 k, .int .i64 sz, .int .i64 du, .bool ch]] W' fun e w' => e = .returned (.bool (descOk x0 k sz du ch)) ∧
      w'.heap[w.heap.size + 1]? = some (.cells #[.int .i64 x0, .int .i64 k, .int .i64 sz, .int .i64 du, .bool ch] 26 (0, 0)) ∧
      w'.heap[w.heap.size]? = some (.cells #[.int .i64 0, .int .i64 0, .int .i64 0, .int .i64 0, .bool false] 26 (0, 0)) ∧ Below w.heap.size w w' := by
    rintro W' ⟨N, rfl⟩
    refine (s_IsDescriptor x0 k sz du ch _).mono ?_
    rintro e w' ⟨he, hb0⟩
    have hb : Below W.heap.size W w' := ⟨hb0.os, hb0.tape, hb0.output, hb0.size, hb0.block⟩
    exact ⟨he, (hb.block (w.heap.size + 1) (by omega)).trans BD.out, (hb.block w.heap.size (by omega)).trans BR.out, BW.trans (hb.mono (by omega))⟩
  have HC := Lib.hid hc0
  clear hc0 c0 c1 c2 c3 c4 bR bD
  have f0 : w.heap.size ≠ w.heap.size + 1 := by omega
  cases hd : descOk x0 k sz du ch
  · rw [hd] at HC
    first
    | (go_region_with ((go_at_call 57; refine (HC.out _ ?_).mono ?_; (first | exact ⟨1, rfl⟩ | exact ⟨2, rfl⟩ | exact ⟨0, rfl⟩); rintro e w3 ⟨rfl, hD3, hR3, hB3⟩; obtain ⟨y0, y1, y2, y3, y4⟩ := desc_cells hD3; obtain ⟨g0, g1, g2, g3, g4⟩ := desc_cells hR3; have k0 := frozen_of_row _ _ 0 _ _ hR3; have k1 := frozen_of_row _ _ 1 _ _ hR3; have k2 := frozen_of_row _ _ 2 _ _ hR3; have k3 := frozen_of_row _ _ 3 _ _ hR3; have k4 := frozen_of_row _ _ 4 _ _ hR3)))
    | fail "X"
    all_goals go_wp2
    all_goals (refine bodyPost_ret (v := .tuple #[.agg #[.int .i64 x0, .int .i64 k, .int .i64 sz, .int .i64 du, .bool ch], .bool (false)]) (by simp [results, Try.results70, go_sem, *]) rfl ⟨by simp [hd], ?_⟩; (try clear HC hHeld); exact below_five hB3 (Nat.le_refl _))
  · rw [hd] at HC
    have hb := desc_bd hd
    have hz := cellsZ_bd (k := k) hb.2.2.2.2.2.1 hb.2.2.2.2.2.2.1
    go_region_with (first | (go_at_call 57; refine (HC.out _ ?_).mono ?_; (first | exact ⟨1, rfl⟩ | exact ⟨2, rfl⟩ | exact ⟨0, rfl⟩); rintro e w3 ⟨rfl, hD3, hR3, hB3⟩; obtain ⟨y0, y1, y2, y3, y4⟩ := desc_cells hD3; obtain ⟨g0, g1, g2, g3, g4⟩ := desc_cells hR3; have k0 := frozen_of_row _ _ 0 _ _ hR3; have k1 := frozen_of_row _ _ 1 _ _ hR3; have k2 := frozen_of_row _ _ 2 _ _ hR3; have k3 := frozen_of_row _ _ 3 _ _ hR3; have k4 := frozen_of_row _ _ 4 _ _ hR3; have hI3 := hI.below' hB hB3; have hz3 := Below.lt_of hR3; have hz4 := Below.lt_of hD3) | (go_at_call 67; refine (s_l08Bytes x0 k sz du ch _ hb.2.2.1 hb.2.2.2.1 hb.2.2.2.2.2.1 (by omega) (by omega) (by omega)).mono ?_; rintro e w4 ⟨v, rfl, o4, b4⟩; obtain ⟨A4, c4, rfl, i4⟩ := o4.ints (by simp [descL]); (first | (have hR4 := (b4.block w.heap.size hz3).trans hR3; have hD4 := (b4.block (w.heap.size + 1) hz4).trans hD3; have hI4 := hI3.below' (by omega) b4; have hB4 := hB3.trans (b4.mono (by omega))) | (have hR4 := (b4.block w.heap.size (by simpa using hz3)).trans (five_heap hR3); have hD4 := (b4.block (w.heap.size + 1) (by simpa using hz4)).trans ((five_other (by omega)).trans hD3); have hI4 := (hI3.five hB).below' (by simp; omega) b4; have hB4 := (below_five hB3 (Nat.le_refl _)).trans (b4.mono (by simp; omega)))); obtain ⟨g0, g1, g2, g3, g4⟩ := desc_cells hR4; obtain ⟨y0, y1, y2, y3, y4⟩ := desc_cells hD4; have k0 := frozen_of_row _ _ 0 _ _ hR4; have k1 := frozen_of_row _ _ 1 _ _ hR4; have k2 := frozen_of_row _ _ 2 _ _ hR4; have k3 := frozen_of_row _ _ 3 _ _ hR4; have k4 := frozen_of_row _ _ 4 _ _ hR4) | (go_at_call 116; refine (s_l01Same _ _ _ _ _ _ _ _ _ _ _ i4 hI4).mono ?_; rintro e w5 ⟨rfl, m, rfl⟩))
    all_goals go_wp2
    all_goals (refine bodyPost_ret (v := .tuple #[.agg #[.int .i64 x0, .int .i64 k, .int .i64 sz, .int .i64 du, .bool ch], .bool (eqL (descL x0 k sz du ch) [x0, x1, x2, x3, x4])]) (by simp [results, Try.results70, go_sem, *]) rfl ⟨by simp [hd], ?_⟩; (try clear HC hHeld); first | exact below_five (below_drewN hB4 _) (Nat.le_refl _) | exact below_drewN hB4 _ | trace_state)
end Go.Proofs.Ytecelofoffdjlaa

/- Contracts of DescriptorFromBytes and what it calls. -/
import Derived.Test.YtecelofoffdjlaaDesc2
import Derived.Test.YtecelofoffdjlaaByt
import Derived.Deep.RegionHeld3
import Derived.BigRegion
namespace Go.Proofs.Ytecelofoffdjlaa
open Go.RowKit
set_option linter.unusedSimpArgs false
set_option linter.unusedVariables false
theorem add_lit (ad : Addr) (k : Nat) (h : k ≠ 0) : ad.add k = { block := ad.block, off := ad.off + k } := by unfold Addr.add; rw [if_neg (by simpa using h)]
def dN (x : List Int) : Int := x.getD 0 0
def dK (x : List Int) : Int := x.getD 1 0 / 64
def dS (x : List Int) : Int := x.getD 1 0 % 64
def dD (x : List Int) : Int := x.getD 2 0 * 256 + x.getD 3 0
def dC (x : List Int) : Bool := x.getD 4 0 == 1
theorem below_five {B : Nat} {a w : World} (h : Below B a w) {g : Nat} (hg : B ≤ g) {v0 v1 v2 v3 v4 : Value} : Below B a (((((w.setCell ⟨g, 0, none⟩ v0).setCell ⟨g, 1, none⟩ v1).setCell ⟨g, 2, none⟩ v2).setCell ⟨g, 3, none⟩ v3).setCell ⟨g, 4, none⟩ v4) :=
  ((((h.setCell hg _).setCell hg _).setCell hg _).setCell hg _).setCell hg _
set_option maxHeartbeats 2000000 in
theorem i_descriptorFrom (ad : Addr) (c : Nat) (x0 x1 x2 x3 x4 : Int) (B : Nat) (w : World) (hadb : ad.block < B) (hB : B ≤ w.heap.size) (hc : 5 ≤ c)
    (c0 : w.cell? ad = some (.int .i64 x0)) (c1 : w.cell? { block := ad.block, off := ad.off + 1 } = some (.int .i64 x1)) (c2 : w.cell? { block := ad.block, off := ad.off + 2 } = some (.int .i64 x2)) (c3 : w.cell? { block := ad.block, off := ad.off + 3 } = some (.int .i64 x3)) (c4 : w.cell? { block := ad.block, off := ad.off + 4 } = some (.int .i64 x4))
    (k sz du : Int) (ch : Bool) (E1 : Hid (IntKind.i64.wrap (x1.tdiv 64) = k)) (E2 : Hid (x1.tmod 64 = sz)) (E3 : Hid (IntKind.i64.wrap (IntKind.i64.wrap (x2 * 256) + x3) = du)) (E4 : Hid ((x4 == 1) = ch)) :
    Calls Try.prog 72 #[.slice (some ad) 5 c] w fun e w' => e = .returned (.tuple #[.agg #[.int .i64 x0, .int .i64 k, .int .i64 sz, .int .i64 du, .bool ch], .bool (descOk x0 k sz du ch && decide (x4 ≤ 1))]) ∧ Below w.heap.size w w' := by
  have n1 : w.heap.size ≠ ad.block := by omega
  go_enter Try.func72, Try.ntmps72
  go_wp2
  go_region_held3 (fun w' => w'.cell? ad = some (.int .i64 x0) ∧ w'.cell? { block := ad.block, off := ad.off + 1 } = some (.int .i64 x1) ∧ w'.cell? { block := ad.block, off := ad.off + 2 } = some (.int .i64 x2) ∧ w'.cell? { block := ad.block, off := ad.off + 3 } = some (.int .i64 x3) ∧ w'.cell? { block := ad.block, off := ad.off + 4 } = some (.int .i64 x4)) (go_keep) (fail)
  go_wp2
  simp only [E1.out, E2.out, E3.out, E4.out]
  have bR : ((w.alloc (.cells #[.int .i64 0, .int .i64 0, .int .i64 0, .int .i64 0, .bool false] 26)).alloc (.cells #[.int .i64 x0, .int .i64 k, .int .i64 sz, .int .i64 du, .bool ch] 26)).heap[w.heap.size]? = some (.cells #[.int .i64 0, .int .i64 0, .int .i64 0, .int .i64 0, .bool false] 26 (0, 0)) :=
    (Below.heap_alloc _ _ _ (by simp)).trans (heap_alloc_new w _)
  have bD : ((w.alloc (.cells #[.int .i64 0, .int .i64 0, .int .i64 0, .int .i64 0, .bool false] 26)).alloc (.cells #[.int .i64 x0, .int .i64 k, .int .i64 sz, .int .i64 du, .bool ch] 26)).heap[w.heap.size + 1]? = some (.cells #[.int .i64 x0, .int .i64 k, .int .i64 sz, .int .i64 du, .bool ch] 26 (0, 0)) := by
    have := heap_alloc_new (w.alloc (.cells #[.int .i64 0, .int .i64 0, .int .i64 0, .int .i64 0, .bool false] 26)) (.cells #[.int .i64 x0, .int .i64 k, .int .i64 sz, .int .i64 du, .bool ch] 26)
    simpa using this
  have BW : Below w.heap.size w ((w.alloc (.cells #[.int .i64 0, .int .i64 0, .int .i64 0, .int .i64 0, .bool false] 26)).alloc (.cells #[.int .i64 x0, .int .i64 k, .int .i64 sz, .int .i64 du, .bool ch] 26)) := ((Below.refl _ _).alloc (Nat.le_refl _) _).alloc (by simp) _
  have zW : w.heap.size + 2 ≤ ((w.alloc (.cells #[.int .i64 0, .int .i64 0, .int .i64 0, .int .i64 0, .bool false] 26)).alloc (.cells #[.int .i64 x0, .int .i64 k, .int .i64 sz, .int .i64 du, .bool ch] 26)).heap.size := by simp
  generalize (w.alloc (.cells #[.int .i64 0, .int .i64 0, .int .i64 0, .int .i64 0, .bool false] 26)).alloc (.cells #[.int .i64 x0, .int .i64 k, .int .i64 sz, .int .i64 du, .bool ch] 26) = W at bR bD BW zW ⊢
  have e4 : W.cell? { block := ad.block, off := ad.off + 4 } = some (.int .i64 x4) := by rw [BW.cell (p := { block := ad.block, off := ad.off + 4 }) (show ad.block < w.heap.size by omega)]; exact c4
  obtain ⟨d0, d1, d2, d3, d4⟩ := desc_cells bD
  have BR := Lib.hid bR; have BD := Lib.hid bD
  have nb : ad.block < W.heap.size := by omega
  have hc0 : ∀ W' : World, (∃ N, W' = W.drewN N) → Calls Try.prog 56 #[.agg #[.int .i64 x0, .int .i64 k, .int .i64 sz, .int .i64 du, .bool ch]] W' fun e w' => e = .returned (.bool (descOk x0 k sz du ch)) ∧
      (w'.cell? ⟨w.heap.size + 1, 0, none⟩ = some (.int .i64 x0) ∧ w'.cell? ⟨w.heap.size + 1, 1, none⟩ = some (.int .i64 k) ∧ w'.cell? ⟨w.heap.size + 1, 2, none⟩ = some (.int .i64 sz) ∧ w'.cell? ⟨w.heap.size + 1, 3, none⟩ = some (.int .i64 du) ∧ w'.cell? ⟨w.heap.size + 1, 4, none⟩ = some (.bool ch) ∧ w'.cell? { block := ad.block, off := ad.off + 4 } = some (.int .i64 x4)) ∧
      w'.heap[w.heap.size]? = some (.cells #[.int .i64 0, .int .i64 0, .int .i64 0, .int .i64 0, .bool false] 26 (0, 0)) ∧ Below w.heap.size w w' := by
    rintro W' ⟨N, rfl⟩
    refine (i_IsDescriptor x0 k sz du ch _).mono ?_
    rintro e w' ⟨he, hb0⟩
    have hb : Below W.heap.size W w' := ⟨hb0.os, hb0.tape, hb0.output, hb0.size, hb0.block⟩
    obtain ⟨y0, y1, y2, y3, y4⟩ := desc_cells ((hb.block (w.heap.size + 1) (by omega)).trans BD.out)
    refine ⟨he, ⟨y0, y1, y2, y3, y4, ?_⟩, (hb.block w.heap.size (by omega)).trans BR.out, BW.trans (hb.mono (by omega))⟩
    rw [hb.cell (p := { block := ad.block, off := ad.off + 4 }) nb]; exact e4
  have HC := Lib.hid hc0
  clear hc0 c0 c1 c2 c3 c4 bR bD
  have f0 : w.heap.size ≠ w.heap.size + 1 := by omega
  cases hd : descOk x0 k sz du ch
  · rw [hd] at HC
    first
    | (go_region_with ((go_at_call 56; refine (HC.out _ ?_).mono ?_; (first | exact ⟨1, rfl⟩ | exact ⟨2, rfl⟩ | exact ⟨0, rfl⟩); rintro e w3 ⟨rfl, ⟨y0, y1, y2, y3, y4, y5⟩, hR3, hB3⟩; obtain ⟨g0, g1, g2, g3, g4⟩ := desc_cells hR3; have k0 := frozen_of_row _ _ 0 _ _ hR3; have k1 := frozen_of_row _ _ 1 _ _ hR3; have k2 := frozen_of_row _ _ 2 _ _ hR3; have k3 := frozen_of_row _ _ 3 _ _ hR3; have k4 := frozen_of_row _ _ 4 _ _ hR3)))
    | fail "X"
    all_goals go_wp2
    all_goals (refine bodyPost_ret (v := .tuple #[.agg #[.int .i64 x0, .int .i64 k, .int .i64 sz, .int .i64 du, .bool ch], .bool (false)]) (by simp [results, Try.results72, go_sem, *]) rfl ⟨by simp [hd], ?_⟩; (try clear HC hHeld); exact below_five hB3 (Nat.le_refl _))
  · rw [hd] at HC
    first
    | (go_region_with ((go_at_call 56; refine (HC.out _ ?_).mono ?_; (first | exact ⟨1, rfl⟩ | exact ⟨2, rfl⟩ | exact ⟨0, rfl⟩); rintro e w3 ⟨rfl, ⟨y0, y1, y2, y3, y4, y5⟩, hR3, hB3⟩; obtain ⟨g0, g1, g2, g3, g4⟩ := desc_cells hR3; have k0 := frozen_of_row _ _ 0 _ _ hR3; have k1 := frozen_of_row _ _ 1 _ _ hR3; have k2 := frozen_of_row _ _ 2 _ _ hR3; have k3 := frozen_of_row _ _ 3 _ _ hR3; have k4 := frozen_of_row _ _ 4 _ _ hR3)))
    | fail "X"
    all_goals go_wp2
    all_goals (refine bodyPost_ret (v := .tuple #[.agg #[.int .i64 x0, .int .i64 k, .int .i64 sz, .int .i64 du, .bool ch], .bool (decide (x4 ≤ 1))]) (by simp [results, Try.results72, go_sem, *]) rfl ⟨by simp [hd], ?_⟩; (try clear HC hHeld); exact below_five hB3 (Nat.le_refl _))
end Go.Proofs.Ytecelofoffdjlaa

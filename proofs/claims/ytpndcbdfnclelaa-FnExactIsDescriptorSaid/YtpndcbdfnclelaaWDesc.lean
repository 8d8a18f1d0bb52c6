/- The walks of the laws on kinds, sizes and descriptors. -/
import Derived.Test.YtpndcbdfnclelaaDesc
namespace Go.Proofs.Ytpndcbdfnclelaa
open Go.RowKit
set_option linter.unusedSimpArgs false
set_option linter.unusedVariables false
theorem w_BodySize (a0 a1 : Int) (w : World) (w0 : (Lit.int .i64 a0).wf = true) (w1 : (Lit.int .i64 a1).wf = true) :
    Calls Try.prog 8 #[.int .i64 a0, .int .i64 a1] w fun e w' => e = .returned (.bool true) ∧ Below w.heap.size w w' := by
  go_enter Try.func8, Try.ntmps8
  go_wp2_with (first | (go_at_call 25; refine (s_BodySize _ _ _).mono ?_; rintro e w' ⟨rfl, rfl⟩) | (go_at_call 26; refine (i_BodySize _ _ _).mono ?_; rintro e w' ⟨rfl, rfl⟩))
  go_ret
  exact ⟨rfl, Below.refl _ _⟩
theorem w_SealSize (a0 a1 : Int) (w : World) (w0 : (Lit.int .i64 a0).wf = true) (w1 : (Lit.int .i64 a1).wf = true) :
    Calls Try.prog 13 #[.int .i64 a0, .int .i64 a1] w fun e w' => e = .returned (.bool true) ∧ Below w.heap.size w w' := by
  go_enter Try.func13, Try.ntmps13
  go_wp2_with (first | (go_at_call 40; refine (s_SealSize _ _ _).mono ?_; rintro e w' ⟨rfl, rfl⟩) | (go_at_call 41; refine (i_SealSize _ _ _).mono ?_; rintro e w' ⟨rfl, rfl⟩))
  go_ret
  exact ⟨rfl, Below.refl _ _⟩
theorem w_CellsNeeded (a0 a1 : Int) (w : World) (w0 : (Lit.int .i64 a0).wf = true) (w1 : (Lit.int .i64 a1).wf = true) :
    Calls Try.prog 14 #[.int .i64 a0, .int .i64 a1] w fun e w' => e = .returned (.bool true) ∧ Below w.heap.size w w' := by
  go_enter Try.func14, Try.ntmps14
  go_wp2_with (first | (go_at_call 42; refine (s_CellsNeeded _ _ _).mono ?_; rintro e w' ⟨rfl, rfl⟩) | (go_at_call 43; refine (i_CellsNeeded _ _ _).mono ?_; rintro e w' ⟨rfl, rfl⟩))
  go_ret
  exact ⟨rfl, Below.refl _ _⟩
theorem w_IsDescriptor (nd k sz du : Int) (ch : Bool) (w : World) (q0 : (Lit.int .i64 nd).wf = true) (q1 : (Lit.int .i64 k).wf = true) (q2 : (Lit.int .i64 sz).wf = true) (q3 : (Lit.int .i64 du).wf = true) :
    Calls Try.prog 10 #[.agg #[.int .i64 nd, .int .i64 k, .int .i64 sz, .int .i64 du, .bool ch]] w fun e w' => e = .returned (.bool true) ∧ Below w.heap.size w w' := by
  clear q0 q1 q2 q3
  go_enter Try.func10, Try.ntmps10
  go_wp2_with fail
  refine (h_toDescriptor nd k sz du ch _).mono ?_
  rintro e w1 ⟨rfl, hb1⟩
  have z1 := hb1.size
  go_wp2_with fail
  refine (s_IsDescriptor nd k sz du ch _).mono ?_
  rintro e w2 ⟨rfl, hb2⟩
  have z2 := hb2.size
  have hc : w2.heap[w.heap.size]? = some (.cells #[.int .i64 nd, .int .i64 k, .int .i64 sz, .int .i64 du, .bool ch] 36) := by
    rw [hb2.block _ (by simp at z1; omega), hb1.block _ (by simp)]
    exact heap_alloc_new w _
  have c0 : w2.cell? ⟨w.heap.size, 0, none⟩ = some (.int .i64 nd) := cell_of_row _ _ _ _ _ _ hc
  have c1 : w2.cell? ⟨w.heap.size, 1, none⟩ = some (.int .i64 k) := cell_of_row _ _ _ _ _ _ hc
  have c2 : w2.cell? ⟨w.heap.size, 2, none⟩ = some (.int .i64 sz) := cell_of_row _ _ _ _ _ _ hc
  have c3 : w2.cell? ⟨w.heap.size, 3, none⟩ = some (.int .i64 du) := cell_of_row _ _ _ _ _ _ hc
  have c4 : w2.cell? ⟨w.heap.size, 4, none⟩ = some (.bool ch) := cell_of_row _ _ _ _ _ _ hc
  have hB2 : Below w.heap.size w w2 := (((Below.refl _ _).alloc (Nat.le_refl _) _).trans (hb1.mono (by simp))).trans (hb2.mono (by simp at z1; omega))
  have y2 : w.heap.size < w2.heap.size := by simp at z1; omega
  clear hc hb1 hb2 z1 z2
  go_wp2_with fail
  refine (h_toDescriptor nd k sz du ch _).mono ?_
  rintro e w3 ⟨rfl, hb3⟩
  have z3 := hb3.size
  clear c0 c1 c2 c3 c4
  go_wp2_with fail
  refine (i_IsDescriptor nd k sz du ch _).mono ?_
  rintro e w4 ⟨rfl, hb4⟩
  go_wp2_with fail
  go_ret
  exact ⟨rfl, (hB2.trans (hb3.mono (by omega))).trans (hb4.mono (by omega))⟩
theorem w_KindName (a0 : Int) (w : World) (w0 : (Lit.int .i64 a0).wf = true) :
    Calls Try.prog 4 #[.int .i64 a0] w fun e w' => e = .returned (.bool true) ∧ Below w.heap.size w w' := by
  clear w0
  rcases (show a0 < 0 ∨ 3 < a0 ∨ a0 = 0 ∨ a0 = 1 ∨ a0 = 2 ∨ a0 = 3 by omega) with h | h | rfl | rfl | rfl | rfl
  · go_enter Try.func4, Try.ntmps4
    go_wp2_with (first | (go_at_call 44; first | (refine (s_l01In_yes _ _ _ _ ?_ ?_).mono ?_; omega; omega; rintro e w' ⟨rfl, rfl⟩) | (refine (s_l01In_no _ _ _ _ ?_).mono ?_; omega; rintro e w' ⟨rfl, rfl⟩)) | (go_at_call 45; first | (refine (i_within_yes _ _ _ _ ?_ ?_).mono ?_; omega; omega; rintro e w' ⟨rfl, rfl⟩) | (refine (i_within_no _ _ _ _ ?_).mono ?_; omega; rintro e w' ⟨rfl, rfl⟩)) | go_in)
    go_ret
    exact ⟨rfl, (Below.refl _ _).alloc (Nat.le_refl _) _⟩
  · go_enter Try.func4, Try.ntmps4
    go_wp2_with (first | (go_at_call 44; first | (refine (s_l01In_yes _ _ _ _ ?_ ?_).mono ?_; omega; omega; rintro e w' ⟨rfl, rfl⟩) | (refine (s_l01In_no _ _ _ _ ?_).mono ?_; omega; rintro e w' ⟨rfl, rfl⟩)) | (go_at_call 45; first | (refine (i_within_yes _ _ _ _ ?_ ?_).mono ?_; omega; omega; rintro e w' ⟨rfl, rfl⟩) | (refine (i_within_no _ _ _ _ ?_).mono ?_; omega; rintro e w' ⟨rfl, rfl⟩)) | go_in)
    go_ret
    exact ⟨rfl, (Below.refl _ _).alloc (Nat.le_refl _) _⟩
  all_goals
    go_enter Try.func4, Try.ntmps4
    go_wp2_with (first | (go_at_call 44; first | (refine (s_l01In_yes _ _ _ _ ?_ ?_).mono ?_; omega; omega; rintro e w' ⟨rfl, rfl⟩) | (refine (s_l01In_no _ _ _ _ ?_).mono ?_; omega; rintro e w' ⟨rfl, rfl⟩)) | (go_at_call 45; first | (refine (i_within_yes _ _ _ _ ?_ ?_).mono ?_; omega; omega; rintro e w' ⟨rfl, rfl⟩) | (refine (i_within_no _ _ _ _ ?_).mono ?_; omega; rintro e w' ⟨rfl, rfl⟩)) | go_in)
    go_ret
    exact ⟨rfl, ((Below.refl _ _).alloc (Nat.le_refl _) _).alloc (by simp) _⟩
end Go.Proofs.Ytpndcbdfnclelaa

/- Contracts of the functions on kinds, sizes and descriptors, of the program and of the reference, over the same plain functions. -/
import Derived.Test.YtecelofoffdjlaaHelp
import Derived.Test.YtecelofoffdjlaaSc
namespace Go.Proofs.Ytecelofoffdjlaa
open Go.RowKit
set_option linter.unusedSimpArgs false
set_option linter.unusedVariables false

def sizeOk (k d : Int) : Bool := decide (k = 0 ∧ 0 ≤ d ∧ d ≤ 32 ∨ k = 2 ∧ 1 ≤ d ∧ d ≤ 32 ∨ k ≠ 0 ∧ k ≠ 2 ∧ d = 0)
theorem sizeOk_iff (k d : Int) : sizeOk k d = true ↔ (k = 0 ∧ 0 ≤ d ∧ d ≤ 32 ∨ k = 2 ∧ 1 ≤ d ∧ d ≤ 32 ∨ k ≠ 0 ∧ k ≠ 2 ∧ d = 0) := by simp [sizeOk]
theorem sizeOk_bd {k d : Int} (h : sizeOk k d = true) : 0 ≤ d ∧ d ≤ 32 := by have := (sizeOk_iff k d).1 h; omega
theorem sizeOk_yes {k d : Int} (h : k = 0 ∧ 0 ≤ d ∧ d ≤ 32 ∨ k = 2 ∧ 1 ≤ d ∧ d ≤ 32 ∨ k ≠ 0 ∧ k ≠ 2 ∧ d = 0) : sizeOk k d = true := (sizeOk_iff k d).2 h
theorem sizeOk_no {k d : Int} (h : ¬ (k = 0 ∧ 0 ≤ d ∧ d ≤ 32 ∨ k = 2 ∧ 1 ≤ d ∧ d ≤ 32 ∨ k ≠ 0 ∧ k ≠ 2 ∧ d = 0)) : sizeOk k d = false := by rw [Bool.eq_false_iff]; intro e; exact h ((sizeOk_iff k d).1 e)
theorem size_ways (k d : Int) : (k = 0 ∧ 0 ≤ d ∧ d ≤ 32) ∨ (k = 0 ∧ d < 0) ∨ (k = 0 ∧ 32 < d) ∨ (k = 2 ∧ 1 ≤ d ∧ d ≤ 32) ∨ (k = 2 ∧ d < 1) ∨ (k = 2 ∧ 32 < d) ∨ (k ≠ 0 ∧ k ≠ 2 ∧ d = 0) ∨ (k ≠ 0 ∧ k ≠ 2 ∧ d ≠ 0) := by omega
theorem i_isDataSize (k d : Int) (w : World) :
    Calls Try.prog 85 #[.int .i64 k, .int .i64 d] w fun e w' => e = .returned (.bool (sizeOk k d)) ∧ w = w' := by
  have hs : sizeOk k d = true ∨ sizeOk k d = false := by cases sizeOk k d <;> simp
  rcases size_ways k d with ⟨rfl, h1, h2⟩ | ⟨rfl, h1⟩ | ⟨rfl, h1⟩ | ⟨rfl, h1, h2⟩ | ⟨rfl, h1⟩ | ⟨rfl, h1⟩ | ⟨h0, h2, h3⟩ | ⟨h0, h2, h3⟩
  · rw [sizeOk_yes (by omega)]
    go_enter Try.func85, Try.ntmps85
    go_wp2_with (go_at_call 84; first | (refine (i_within_yes _ _ _ _ ?_ ?_).mono ?_; omega; omega; rintro e w' ⟨rfl, rfl⟩) | (refine (i_within_no _ _ _ _ ?_).mono ?_; omega; rintro e w' ⟨rfl, rfl⟩))
    go_ret
    exact ⟨rfl, rfl⟩
  · rw [sizeOk_no (by omega)]
    go_enter Try.func85, Try.ntmps85
    go_wp2_with (go_at_call 84; first | (refine (i_within_yes _ _ _ _ ?_ ?_).mono ?_; omega; omega; rintro e w' ⟨rfl, rfl⟩) | (refine (i_within_no _ _ _ _ ?_).mono ?_; omega; rintro e w' ⟨rfl, rfl⟩))
    go_ret
    exact ⟨rfl, rfl⟩
  · rw [sizeOk_no (by omega)]
    go_enter Try.func85, Try.ntmps85
    go_wp2_with (go_at_call 84; first | (refine (i_within_yes _ _ _ _ ?_ ?_).mono ?_; omega; omega; rintro e w' ⟨rfl, rfl⟩) | (refine (i_within_no _ _ _ _ ?_).mono ?_; omega; rintro e w' ⟨rfl, rfl⟩))
    go_ret
    exact ⟨rfl, rfl⟩
  · rw [sizeOk_yes (by omega)]
    go_enter Try.func85, Try.ntmps85
    go_wp2_with (go_at_call 84; first | (refine (i_within_yes _ _ _ _ ?_ ?_).mono ?_; omega; omega; rintro e w' ⟨rfl, rfl⟩) | (refine (i_within_no _ _ _ _ ?_).mono ?_; omega; rintro e w' ⟨rfl, rfl⟩))
    go_ret
    exact ⟨rfl, rfl⟩
  · rw [sizeOk_no (by omega)]
    go_enter Try.func85, Try.ntmps85
    go_wp2_with (go_at_call 84; first | (refine (i_within_yes _ _ _ _ ?_ ?_).mono ?_; omega; omega; rintro e w' ⟨rfl, rfl⟩) | (refine (i_within_no _ _ _ _ ?_).mono ?_; omega; rintro e w' ⟨rfl, rfl⟩))
    go_ret
    exact ⟨rfl, rfl⟩
  · rw [sizeOk_no (by omega)]
    go_enter Try.func85, Try.ntmps85
    go_wp2_with (go_at_call 84; first | (refine (i_within_yes _ _ _ _ ?_ ?_).mono ?_; omega; omega; rintro e w' ⟨rfl, rfl⟩) | (refine (i_within_no _ _ _ _ ?_).mono ?_; omega; rintro e w' ⟨rfl, rfl⟩))
    go_ret
    exact ⟨rfl, rfl⟩
  · rw [sizeOk_yes (by omega)]
    have h0' : (k == 0) = false := by simpa using h0
    have h2' : (k == 2) = false := by simpa using h2
    have h3' : (d == 0) = true := by simpa using h3
    clear h0 h2 h3
    go_enter Try.func85, Try.ntmps85
    go_wp2_with (go_at_call 84; first | (refine (i_within_yes _ _ _ _ ?_ ?_).mono ?_; omega; omega; rintro e w' ⟨rfl, rfl⟩) | (refine (i_within_no _ _ _ _ ?_).mono ?_; omega; rintro e w' ⟨rfl, rfl⟩))
    go_ret
    exact ⟨rfl, rfl⟩
  · rw [sizeOk_no (by omega)]
    have h0' : (k == 0) = false := by simpa using h0
    have h2' : (k == 2) = false := by simpa using h2
    have h3' : (d == 0) = false := by simpa using h3
    clear h0 h2 h3
    go_enter Try.func85, Try.ntmps85
    go_wp2_with (go_at_call 84; first | (refine (i_within_yes _ _ _ _ ?_ ?_).mono ?_; omega; omega; rintro e w' ⟨rfl, rfl⟩) | (refine (i_within_no _ _ _ _ ?_).mono ?_; omega; rintro e w' ⟨rfl, rfl⟩))
    go_ret
    exact ⟨rfl, rfl⟩
theorem s_l06Size (k d : Int) (w : World) :
    Calls Try.prog 80 #[.int .i64 k, .int .i64 d] w fun e w' => e = .returned (.bool (sizeOk k d)) ∧ w = w' := by
  have hs : sizeOk k d = true ∨ sizeOk k d = false := by cases sizeOk k d <;> simp
  rcases size_ways k d with ⟨rfl, h1, h2⟩ | ⟨rfl, h1⟩ | ⟨rfl, h1⟩ | ⟨rfl, h1, h2⟩ | ⟨rfl, h1⟩ | ⟨rfl, h1⟩ | ⟨h0, h2, h3⟩ | ⟨h0, h2, h3⟩
  · rw [sizeOk_yes (by omega)]
    go_enter Try.func80, Try.ntmps80
    go_wp2_with (go_at_call 79; first | (refine (s_l01In_yes _ _ _ _ ?_ ?_).mono ?_; omega; omega; rintro e w' ⟨rfl, rfl⟩) | (refine (s_l01In_no _ _ _ _ ?_).mono ?_; omega; rintro e w' ⟨rfl, rfl⟩))
    go_ret
    exact ⟨rfl, rfl⟩
  · rw [sizeOk_no (by omega)]
    go_enter Try.func80, Try.ntmps80
    go_wp2_with (go_at_call 79; first | (refine (s_l01In_yes _ _ _ _ ?_ ?_).mono ?_; omega; omega; rintro e w' ⟨rfl, rfl⟩) | (refine (s_l01In_no _ _ _ _ ?_).mono ?_; omega; rintro e w' ⟨rfl, rfl⟩))
    go_ret
    exact ⟨rfl, rfl⟩
  · rw [sizeOk_no (by omega)]
    go_enter Try.func80, Try.ntmps80
    go_wp2_with (go_at_call 79; first | (refine (s_l01In_yes _ _ _ _ ?_ ?_).mono ?_; omega; omega; rintro e w' ⟨rfl, rfl⟩) | (refine (s_l01In_no _ _ _ _ ?_).mono ?_; omega; rintro e w' ⟨rfl, rfl⟩))
    go_ret
    exact ⟨rfl, rfl⟩
  · rw [sizeOk_yes (by omega)]
    go_enter Try.func80, Try.ntmps80
    go_wp2_with (go_at_call 79; first | (refine (s_l01In_yes _ _ _ _ ?_ ?_).mono ?_; omega; omega; rintro e w' ⟨rfl, rfl⟩) | (refine (s_l01In_no _ _ _ _ ?_).mono ?_; omega; rintro e w' ⟨rfl, rfl⟩))
    go_ret
    exact ⟨rfl, rfl⟩
  · rw [sizeOk_no (by omega)]
    go_enter Try.func80, Try.ntmps80
    go_wp2_with (go_at_call 79; first | (refine (s_l01In_yes _ _ _ _ ?_ ?_).mono ?_; omega; omega; rintro e w' ⟨rfl, rfl⟩) | (refine (s_l01In_no _ _ _ _ ?_).mono ?_; omega; rintro e w' ⟨rfl, rfl⟩))
    go_ret
    exact ⟨rfl, rfl⟩
  · rw [sizeOk_no (by omega)]
    go_enter Try.func80, Try.ntmps80
    go_wp2_with (go_at_call 79; first | (refine (s_l01In_yes _ _ _ _ ?_ ?_).mono ?_; omega; omega; rintro e w' ⟨rfl, rfl⟩) | (refine (s_l01In_no _ _ _ _ ?_).mono ?_; omega; rintro e w' ⟨rfl, rfl⟩))
    go_ret
    exact ⟨rfl, rfl⟩
  · rw [sizeOk_yes (by omega)]
    have h0' : (k == 0) = false := by simpa using h0
    have h2' : (k == 2) = false := by simpa using h2
    have h3' : (d == 0) = true := by simpa using h3
    clear h0 h2 h3
    go_enter Try.func80, Try.ntmps80
    go_wp2_with (go_at_call 79; first | (refine (s_l01In_yes _ _ _ _ ?_ ?_).mono ?_; omega; omega; rintro e w' ⟨rfl, rfl⟩) | (refine (s_l01In_no _ _ _ _ ?_).mono ?_; omega; rintro e w' ⟨rfl, rfl⟩))
    go_ret
    exact ⟨rfl, rfl⟩
  · rw [sizeOk_no (by omega)]
    have h0' : (k == 0) = false := by simpa using h0
    have h2' : (k == 2) = false := by simpa using h2
    have h3' : (d == 0) = false := by simpa using h3
    clear h0 h2 h3
    go_enter Try.func80, Try.ntmps80
    go_wp2_with (go_at_call 79; first | (refine (s_l01In_yes _ _ _ _ ?_ ?_).mono ?_; omega; omega; rintro e w' ⟨rfl, rfl⟩) | (refine (s_l01In_no _ _ _ _ ?_).mono ?_; omega; rintro e w' ⟨rfl, rfl⟩))
    go_ret
    exact ⟨rfl, rfl⟩
theorem ret_int {k : IntKind} {a b : Int} (h : a = b) : Ending.returned (.int k a) = .returned (.int k b) := by rw [h]
theorem kind3 (k : Int) : k = 0 ∨ k = 2 ∨ (k ≠ 0 ∧ k ≠ 2) := by omega
def bodyZ (k d : Int) : Int := if k = 0 then 2 + d else if k = 2 then 10 + d else 9
theorem bodyZ_bd {k d : Int} (h0 : 0 ≤ d) (h1 : d ≤ 32) : 2 ≤ bodyZ k d ∧ bodyZ k d ≤ 42 := by unfold bodyZ; split <;> (try split) <;> omega
def bodyC (k d : Int) : Int := if ¬ (0 ≤ k ∧ k ≤ 3) then 1 else if sizeOk k d = true then 0 else 2
def bodyV (k d : Int) : Int := if bodyC k d = 0 then bodyZ k d else 0
def sealV (k d : Int) : Int := if bodyC k d = 0 then bodyZ k d + 3 else 0
def cellsZ (k d : Int) : Int := 11 + 10 * (bodyZ k d + 3)
def cellsV (k d : Int) : Int := if bodyC k d = 0 then cellsZ k d else 0
theorem bodyC_ok {k d : Int} (h : bodyC k d = 0) : 0 ≤ k ∧ k ≤ 3 ∧ sizeOk k d = true ∧ 0 ≤ d ∧ d ≤ 32 := by
  unfold bodyC at h
  split at h
  · cases h
  · split at h
    · rename_i hk hs; have := sizeOk_bd hs; exact ⟨by omega, by omega, hs, this.1, this.2⟩
    · cases h
theorem bodyV_bd (k d : Int) : 0 ≤ bodyV k d ∧ bodyV k d ≤ 42 := by
  unfold bodyV; split
  · rename_i h; have := bodyC_ok h; have := bodyZ_bd (k := k) this.2.2.2.1 this.2.2.2.2; omega
  · omega
theorem body_ways (k d : Int) : ((k < 0 ∨ 3 < k) ∧ bodyV k d = 0 ∧ bodyC k d = 1) ∨ (0 ≤ k ∧ k ≤ 3 ∧ sizeOk k d = false ∧ bodyV k d = 0 ∧ bodyC k d = 2) ∨
    (0 ≤ k ∧ k ≤ 3 ∧ sizeOk k d = true ∧ 0 ≤ d ∧ d ≤ 32 ∧ bodyV k d = bodyZ k d ∧ bodyC k d = 0) := by
  by_cases h : 0 ≤ k ∧ k ≤ 3
  · cases hs : sizeOk k d
    · refine .inr (.inl ⟨h.1, h.2, rfl, ?_, ?_⟩) <;> simp [bodyV, bodyC, h, hs]
    · have := sizeOk_bd hs
      refine .inr (.inr ⟨h.1, h.2, rfl, this.1, this.2, ?_, ?_⟩) <;> simp [bodyV, bodyC, h, hs]
  · refine .inl ⟨by omega, ?_, ?_⟩ <;> simp [bodyV, bodyC, h]
theorem seal_lem (k d : Int) : (bodyC k d = 0 → sealV k d = bodyV k d + 3) ∧ (bodyC k d ≠ 0 → sealV k d = 0) := by
  constructor <;> intro h <;> simp [sealV, bodyV, h]
theorem cells_lem (k d : Int) : (bodyC k d = 0 → cellsV k d = cellsZ k d) ∧ (bodyC k d ≠ 0 → cellsV k d = 0) := by
  constructor <;> intro h <;> simp [cellsV, h]
theorem i_bodySize (k d : Int) (w : World) (h0 : 0 ≤ d) (h1 : d ≤ 32) :
    Calls Try.prog 100 #[.int .i64 k, .int .i64 d] w fun e w' => e = .returned (.int .i64 (bodyZ k d)) ∧ w = w' := by
  rcases kind3 k with rfl | rfl | ⟨g0, g2⟩
  · rw [show bodyZ 0 d = 2 + d from rfl]
    go_enter Try.func100, Try.ntmps100
    go_wp2
    go_ret
    exact ⟨ret_int (by omega), rfl⟩
  · rw [show bodyZ 2 d = 10 + d from rfl]
    go_enter Try.func100, Try.ntmps100
    go_wp2
    go_ret
    exact ⟨ret_int (by omega), rfl⟩
  · rw [show bodyZ k d = 9 by simp [bodyZ, g0, g2]]
    have q0 : (k == 0) = false := by simpa using g0
    have q2 : (k == 2) = false := by simpa using g2
    have q0' : (k != 0) = true := by simpa using g0
    clear g0 g2
    go_enter Try.func100, Try.ntmps100
    go_wp2
    go_ret
    exact ⟨rfl, rfl⟩
theorem s_l06BodySize (k d : Int) (w : World) (h0 : 0 ≤ d) (h1 : d ≤ 32) :
    Calls Try.prog 101 #[.int .i64 k, .int .i64 d] w fun e w' => e = .returned (.int .i64 (bodyZ k d)) ∧ w = w' := by
  rcases kind3 k with rfl | rfl | ⟨g0, g2⟩
  · rw [show bodyZ 0 d = 2 + d from rfl]
    go_enter Try.func101, Try.ntmps101
    go_wp2
    go_ret
    exact ⟨ret_int (by omega), rfl⟩
  · rw [show bodyZ 2 d = 10 + d from rfl]
    go_enter Try.func101, Try.ntmps101
    go_wp2
    go_ret
    exact ⟨ret_int (by omega), rfl⟩
  · rw [show bodyZ k d = 9 by simp [bodyZ, g0, g2]]
    have q0 : (k == 0) = false := by simpa using g0
    have q2 : (k == 2) = false := by simpa using g2
    have q0' : (k != 0) = true := by simpa using g0
    clear g0 g2
    go_enter Try.func101, Try.ntmps101
    go_wp2
    go_ret
    exact ⟨rfl, rfl⟩
theorem i_BodySize (k d : Int) (w : World) :
    Calls Try.prog 42 #[.int .i64 k, .int .i64 d] w fun e w' => e = .returned (.tuple #[.int .i64 (bodyV k d), .int .i64 (bodyC k d)]) ∧ w = w' := by
  rcases body_ways k d with ⟨h, ev, ec⟩ | ⟨h0, h1, hs, ev, ec⟩ | ⟨h0, h1, hs, h2, h3, ev, ec⟩
  · rw [ev, ec]; clear ev ec
    rcases h with h | h
    all_goals
      go_enter Try.func42, Try.ntmps42
      go_wp2_with (first | (go_at_call 85; refine (i_isDataSize _ _ _).mono ?_; rintro e w' ⟨rfl, rfl⟩) | (go_at_call 100; refine (i_bodySize _ _ _ (by omega) (by omega)).mono ?_; rintro e w' ⟨rfl, rfl⟩) | (go_at_call 84; first | (refine (i_within_yes _ _ _ _ ?_ ?_).mono ?_; omega; omega; rintro e w' ⟨rfl, rfl⟩) | (refine (i_within_no _ _ _ _ ?_).mono ?_; omega; rintro e w' ⟨rfl, rfl⟩)) | go_in)
      go_ret2
      exact ⟨rfl, rfl⟩
  · rw [ev, ec]; clear ev ec
    go_enter Try.func42, Try.ntmps42
    go_wp2_with (first | (go_at_call 85; refine (i_isDataSize _ _ _).mono ?_; rintro e w' ⟨rfl, rfl⟩) | (go_at_call 100; refine (i_bodySize _ _ _ (by omega) (by omega)).mono ?_; rintro e w' ⟨rfl, rfl⟩) | (go_at_call 84; first | (refine (i_within_yes _ _ _ _ ?_ ?_).mono ?_; omega; omega; rintro e w' ⟨rfl, rfl⟩) | (refine (i_within_no _ _ _ _ ?_).mono ?_; omega; rintro e w' ⟨rfl, rfl⟩)) | go_in)
    go_ret2
    exact ⟨rfl, rfl⟩
  · rw [ev, ec]; clear ev ec
    go_enter Try.func42, Try.ntmps42
    go_wp2_with (first | (go_at_call 85; refine (i_isDataSize _ _ _).mono ?_; rintro e w' ⟨rfl, rfl⟩) | (go_at_call 100; refine (i_bodySize _ _ _ (by omega) (by omega)).mono ?_; rintro e w' ⟨rfl, rfl⟩) | (go_at_call 84; first | (refine (i_within_yes _ _ _ _ ?_ ?_).mono ?_; omega; omega; rintro e w' ⟨rfl, rfl⟩) | (refine (i_within_no _ _ _ _ ?_).mono ?_; omega; rintro e w' ⟨rfl, rfl⟩)) | go_in)
    go_ret2
    exact ⟨rfl, rfl⟩
theorem s_BodySize (k d : Int) (w : World) :
    Calls Try.prog 43 #[.int .i64 k, .int .i64 d] w fun e w' => e = .returned (.tuple #[.int .i64 (bodyV k d), .int .i64 (bodyC k d)]) ∧ w = w' := by
  rcases body_ways k d with ⟨h, ev, ec⟩ | ⟨h0, h1, hs, ev, ec⟩ | ⟨h0, h1, hs, h2, h3, ev, ec⟩
  · rw [ev, ec]; clear ev ec
    rcases h with h | h
    all_goals
      go_enter Try.func43, Try.ntmps43
      go_wp2_with (first | (go_at_call 80; refine (s_l06Size _ _ _).mono ?_; rintro e w' ⟨rfl, rfl⟩) | (go_at_call 101; refine (s_l06BodySize _ _ _ (by omega) (by omega)).mono ?_; rintro e w' ⟨rfl, rfl⟩) | (go_at_call 79; first | (refine (s_l01In_yes _ _ _ _ ?_ ?_).mono ?_; omega; omega; rintro e w' ⟨rfl, rfl⟩) | (refine (s_l01In_no _ _ _ _ ?_).mono ?_; omega; rintro e w' ⟨rfl, rfl⟩)) | go_in)
      go_ret2
      exact ⟨rfl, rfl⟩
  · rw [ev, ec]; clear ev ec
    go_enter Try.func43, Try.ntmps43
    go_wp2_with (first | (go_at_call 80; refine (s_l06Size _ _ _).mono ?_; rintro e w' ⟨rfl, rfl⟩) | (go_at_call 101; refine (s_l06BodySize _ _ _ (by omega) (by omega)).mono ?_; rintro e w' ⟨rfl, rfl⟩) | (go_at_call 79; first | (refine (s_l01In_yes _ _ _ _ ?_ ?_).mono ?_; omega; omega; rintro e w' ⟨rfl, rfl⟩) | (refine (s_l01In_no _ _ _ _ ?_).mono ?_; omega; rintro e w' ⟨rfl, rfl⟩)) | go_in)
    go_ret2
    exact ⟨rfl, rfl⟩
  · rw [ev, ec]; clear ev ec
    go_enter Try.func43, Try.ntmps43
    go_wp2_with (first | (go_at_call 80; refine (s_l06Size _ _ _).mono ?_; rintro e w' ⟨rfl, rfl⟩) | (go_at_call 101; refine (s_l06BodySize _ _ _ (by omega) (by omega)).mono ?_; rintro e w' ⟨rfl, rfl⟩) | (go_at_call 79; first | (refine (s_l01In_yes _ _ _ _ ?_ ?_).mono ?_; omega; omega; rintro e w' ⟨rfl, rfl⟩) | (refine (s_l01In_no _ _ _ _ ?_).mono ?_; omega; rintro e w' ⟨rfl, rfl⟩)) | go_in)
    go_ret2
    exact ⟨rfl, rfl⟩
theorem i_SealSize (k d : Int) (w : World) :
    Calls Try.prog 46 #[.int .i64 k, .int .i64 d] w fun e w' => e = .returned (.tuple #[.int .i64 (sealV k d), .int .i64 (bodyC k d)]) ∧ w = w' := by
  have hc := Lib.hid (seal_lem k d)
  have hb := bodyV_bd k d
  have hq : bodyC k d = 0 ∨ bodyC k d ≠ 0 := by omega
  rcases hq with hq | hq
  · have q : (bodyC k d != 0) = false := by simpa using hq
    have e1 := hc.out.1 hq
    rw [e1]
    have Hq := Lib.hid hq
    clear hq e1
    go_enter Try.func46, Try.ntmps46
    go_wp2_with (first | (go_at_call 42; refine (i_BodySize _ _ _).mono ?_; rintro e w' ⟨rfl, rfl⟩) | go_in)
    go_ret2
    exact ⟨by rw [Hq.out]; rfl, rfl⟩
  · have q : (bodyC k d != 0) = true := by simpa using hq
    have e1 := hc.out.2 hq
    rw [e1]
    clear hq e1
    go_enter Try.func46, Try.ntmps46
    go_wp2_with (first | (go_at_call 42; refine (i_BodySize _ _ _).mono ?_; rintro e w' ⟨rfl, rfl⟩) | go_in)
    go_ret2
    exact ⟨rfl, rfl⟩
theorem s_SealSize (k d : Int) (w : World) :
    Calls Try.prog 47 #[.int .i64 k, .int .i64 d] w fun e w' => e = .returned (.tuple #[.int .i64 (sealV k d), .int .i64 (bodyC k d)]) ∧ w = w' := by
  have hc := Lib.hid (seal_lem k d)
  have hb := bodyV_bd k d
  have hq : bodyC k d = 0 ∨ bodyC k d ≠ 0 := by omega
  rcases hq with hq | hq
  · have q : (bodyC k d != 0) = false := by simpa using hq
    have e1 := hc.out.1 hq
    rw [e1]
    have Hq := Lib.hid hq
    clear hq e1
    go_enter Try.func47, Try.ntmps47
    go_wp2_with (first | (go_at_call 43; refine (s_BodySize _ _ _).mono ?_; rintro e w' ⟨rfl, rfl⟩) | go_in)
    go_ret2
    exact ⟨by rw [Hq.out]; rfl, rfl⟩
  · have q : (bodyC k d != 0) = true := by simpa using hq
    have e1 := hc.out.2 hq
    rw [e1]
    clear hq e1
    go_enter Try.func47, Try.ntmps47
    go_wp2_with (first | (go_at_call 43; refine (s_BodySize _ _ _).mono ?_; rintro e w' ⟨rfl, rfl⟩) | go_in)
    go_ret2
    exact ⟨rfl, rfl⟩
theorem i_cellsNeeded (k d : Int) (w : World) (h0 : 0 ≤ d) (h1 : d ≤ 32) :
    Calls Try.prog 66 #[.int .i64 k, .int .i64 d] w fun e w' => e = .returned (.int .i64 (cellsZ k d)) ∧ w = w' := by
  have hb := bodyZ_bd (k := k) h0 h1
  go_enter Try.func66, Try.ntmps66
  go_wp2_with (go_at_call 100; refine (i_bodySize _ _ _ (by omega) (by omega)).mono ?_; rintro e w' ⟨rfl, rfl⟩)
  go_ret
  exact ⟨rfl, rfl⟩
theorem s_l08Cells (k d : Int) (w : World) (h0 : 0 ≤ d) (h1 : d ≤ 32) :
    Calls Try.prog 65 #[.int .i64 k, .int .i64 d] w fun e w' => e = .returned (.int .i64 (cellsZ k d)) ∧ w = w' := by
  have hb := bodyZ_bd (k := k) h0 h1
  go_enter Try.func65, Try.ntmps65
  go_wp2_with (go_at_call 101; refine (s_l06BodySize _ _ _ (by omega) (by omega)).mono ?_; rintro e w' ⟨rfl, rfl⟩)
  go_ret
  exact ⟨rfl, rfl⟩
theorem i_CellsNeeded (k d : Int) (w : World) :
    Calls Try.prog 58 #[.int .i64 k, .int .i64 d] w fun e w' => e = .returned (.tuple #[.int .i64 (cellsV k d), .int .i64 (bodyC k d)]) ∧ w = w' := by
  have hc := Lib.hid (cells_lem k d)
  have hq : bodyC k d = 0 ∨ bodyC k d ≠ 0 := by omega
  rcases hq with hq | hq
  · have q : (bodyC k d != 0) = false := by simpa using hq
    have e1 := hc.out.1 hq
    have hd := bodyC_ok hq
    obtain ⟨_, _, _, hd0, hd1⟩ := hd
    rw [e1]
    have Hq := Lib.hid hq
    clear hq e1
    go_enter Try.func58, Try.ntmps58
    go_wp2_with (first | (go_at_call 42; refine (i_BodySize _ _ _).mono ?_; rintro e w' ⟨rfl, rfl⟩) | (go_at_call 66; refine (i_cellsNeeded _ _ _ (by omega) (by omega)).mono ?_; rintro e w' ⟨rfl, rfl⟩))
    go_ret2
    exact ⟨by rw [Hq.out]; rfl, rfl⟩
  · have q : (bodyC k d != 0) = true := by simpa using hq
    have e1 := hc.out.2 hq
    rw [e1]
    clear hq e1
    go_enter Try.func58, Try.ntmps58
    go_wp2_with (go_at_call 42; refine (i_BodySize _ _ _).mono ?_; rintro e w' ⟨rfl, rfl⟩)
    go_ret2
    exact ⟨rfl, rfl⟩
theorem cellsZ_bd {k d : Int} (h0 : 0 ≤ d) (h1 : d ≤ 32) : 61 ≤ cellsZ k d ∧ cellsZ k d ≤ 461 := by have := bodyZ_bd (k := k) h0 h1; unfold cellsZ; omega
def descOk (nd k sz du : Int) (ch : Bool) : Bool := decide (0 ≤ nd ∧ nd ≤ 31 ∧ 0 ≤ k ∧ k ≤ 3) && sizeOk k sz && !(ch && decide (k = 3)) && decide (cellsZ k sz + 20 ≤ du ∧ du ≤ 1000)
theorem desc_ways (nd k sz du : Int) (ch : Bool) :
    ((nd < 0 ∨ 31 < nd) ∧ descOk nd k sz du ch = false) ∨
    (0 ≤ nd ∧ nd ≤ 31 ∧ (k < 0 ∨ 3 < k) ∧ descOk nd k sz du ch = false) ∨
    (0 ≤ nd ∧ nd ≤ 31 ∧ 0 ≤ k ∧ k ≤ 3 ∧ sizeOk k sz = false ∧ descOk nd k sz du ch = false) ∨
    (0 ≤ nd ∧ nd ≤ 31 ∧ k = 3 ∧ sizeOk 3 sz = true ∧ ch = true ∧ descOk nd k sz du ch = false) ∨
    (0 ≤ nd ∧ nd ≤ 31 ∧ 0 ≤ k ∧ k ≤ 3 ∧ sizeOk k sz = true ∧ 0 ≤ sz ∧ sz ≤ 32 ∧ (ch = false ∨ ch = true ∧ k ≠ 3) ∧ (du < cellsZ k sz + 20 ∨ 1000 < du) ∧ descOk nd k sz du ch = false) ∨
    (0 ≤ nd ∧ nd ≤ 31 ∧ 0 ≤ k ∧ k ≤ 3 ∧ sizeOk k sz = true ∧ 0 ≤ sz ∧ sz ≤ 32 ∧ (ch = false ∨ ch = true ∧ k ≠ 3) ∧ cellsZ k sz + 20 ≤ du ∧ du ≤ 1000 ∧ descOk nd k sz du ch = true) := by
  by_cases hn : 0 ≤ nd ∧ nd ≤ 31
  · by_cases hk : 0 ≤ k ∧ k ≤ 3
    · cases hs : sizeOk k sz
      · exact .inr (.inr (.inl ⟨hn.1, hn.2, hk.1, hk.2, rfl, by simp [descOk, hs]⟩))
      · have hb := sizeOk_bd hs
        by_cases hc : ch = true ∧ k = 3
        · obtain ⟨rfl, rfl⟩ := hc
          exact .inr (.inr (.inr (.inl ⟨hn.1, hn.2, rfl, hs, rfl, by simp [descOk]⟩)))
        · have hc' : ch = false ∨ ch = true ∧ k ≠ 3 := by
            cases ch
            · exact .inl rfl
            · exact .inr ⟨rfl, fun e => hc ⟨rfl, e⟩⟩
          have hcc : (ch && decide (k = 3)) = false := by
            rcases hc' with rfl | ⟨rfl, h⟩ <;> simp_all
          by_cases hd : cellsZ k sz + 20 ≤ du ∧ du ≤ 1000
          · exact .inr (.inr (.inr (.inr (.inr ⟨hn.1, hn.2, hk.1, hk.2, rfl, hb.1, hb.2, hc', hd.1, hd.2, by simp [descOk, hn, hk, hs, hcc, hd]⟩))))
          · exact .inr (.inr (.inr (.inr (.inl ⟨hn.1, hn.2, hk.1, hk.2, rfl, hb.1, hb.2, hc', by omega, by
              have : decide (cellsZ k sz + 20 ≤ du ∧ du ≤ 1000) = false := decide_eq_false hd
              simp only [descOk, this, Bool.and_false]⟩))))
    · refine .inr (.inl ⟨hn.1, hn.2, by omega, ?_⟩)
      have : decide (0 ≤ nd ∧ nd ≤ 31 ∧ 0 ≤ k ∧ k ≤ 3) = false := decide_eq_false (by omega)
      simp only [descOk, this, Bool.false_and]
  · refine .inl ⟨by omega, ?_⟩
    have : decide (0 ≤ nd ∧ nd ≤ 31 ∧ 0 ≤ k ∧ k ≤ 3) = false := decide_eq_false (by omega)
    simp only [descOk, this, Bool.false_and]
theorem i_IsDescriptor (nd k sz du : Int) (ch : Bool) (w : World) :
    Calls Try.prog 56 #[.agg #[.int .i64 nd, .int .i64 k, .int .i64 sz, .int .i64 du, .bool ch]] w fun e w' => e = .returned (.bool (descOk nd k sz du ch)) ∧ Below w.heap.size w w' := by
  rcases desc_ways nd k sz du ch with ⟨h, hd⟩ | ⟨h0, h1, h, hd⟩ | ⟨h0, h1, h2, h3, h, hd⟩ | ⟨h0, h1, rfl, h, rfl, hd⟩ | ⟨h0, h1, h2, h3, h4, h5, h6, hc, h7, hd⟩ | ⟨h0, h1, h2, h3, h4, h5, h6, hc, h7, h8, hd⟩
  · rw [hd]; clear hd
    rcases h with h | h
    all_goals
      go_enter Try.func56, Try.ntmps56
      go_wp2_with (first | (go_at_call 85; refine (i_isDataSize _ _ _).mono ?_; rintro e w' ⟨rfl, rfl⟩) | (go_at_call 84; first | (refine (i_within_yes _ _ _ _ ?_ ?_).mono ?_; omega; omega; rintro e w' ⟨rfl, rfl⟩) | (refine (i_within_no _ _ _ _ ?_).mono ?_; omega; rintro e w' ⟨rfl, rfl⟩)) | go_in)
      go_ret
      exact ⟨rfl, (Below.refl _ _).alloc (Nat.le_refl _) _⟩
  · rw [hd]; clear hd
    rcases h with h | h
    all_goals
      go_enter Try.func56, Try.ntmps56
      go_wp2_with (first | (go_at_call 85; refine (i_isDataSize _ _ _).mono ?_; rintro e w' ⟨rfl, rfl⟩) | (go_at_call 84; first | (refine (i_within_yes _ _ _ _ ?_ ?_).mono ?_; omega; omega; rintro e w' ⟨rfl, rfl⟩) | (refine (i_within_no _ _ _ _ ?_).mono ?_; omega; rintro e w' ⟨rfl, rfl⟩)) | go_in)
      go_ret
      exact ⟨rfl, (Below.refl _ _).alloc (Nat.le_refl _) _⟩
  · rw [hd]; clear hd
    go_enter Try.func56, Try.ntmps56
    go_wp2_with (first | (go_at_call 85; refine (i_isDataSize _ _ _).mono ?_; rintro e w' ⟨rfl, rfl⟩) | (go_at_call 84; first | (refine (i_within_yes _ _ _ _ ?_ ?_).mono ?_; omega; omega; rintro e w' ⟨rfl, rfl⟩) | (refine (i_within_no _ _ _ _ ?_).mono ?_; omega; rintro e w' ⟨rfl, rfl⟩)) | go_in)
    go_ret
    exact ⟨rfl, (Below.refl _ _).alloc (Nat.le_refl _) _⟩
  · rw [hd]; clear hd
    go_enter Try.func56, Try.ntmps56
    go_wp2_with (first | (go_at_call 85; refine (i_isDataSize _ _ _).mono ?_; rintro e w' ⟨rfl, rfl⟩) | (go_at_call 84; first | (refine (i_within_yes _ _ _ _ ?_ ?_).mono ?_; omega; omega; rintro e w' ⟨rfl, rfl⟩) | (refine (i_within_no _ _ _ _ ?_).mono ?_; omega; rintro e w' ⟨rfl, rfl⟩)) | go_in)
    go_ret
    exact ⟨rfl, (Below.refl _ _).alloc (Nat.le_refl _) _⟩
  · rw [hd]; clear hd
    have hz := cellsZ_bd (k := k) h5 h6
    have a1 : IntKind.i64.wrap (cellsZ k sz + 20) = cellsZ k sz + 20 := IntWalk.i64_in _ (by omega)
    by_cases hk3 : k = 3
    · subst hk3
      have hc' : ch = false := by
        rcases hc with h | h
        · exact h
        · exact absurd rfl h.2
      subst hc'
      have A1 := Lib.hid a1; clear a1 hc
      go_enter Try.func56, Try.ntmps56
      go_wp2_with (first | (go_at_call 85; refine (i_isDataSize _ _ _).mono ?_; rintro e w' ⟨rfl, rfl⟩) | (go_at_call 84; first | (refine (i_within_yes _ _ _ _ ?_ ?_).mono ?_; omega; omega; rintro e w' ⟨rfl, rfl⟩) | (refine (i_within_no _ _ _ _ ?_).mono ?_; omega; rintro e w' ⟨rfl, rfl⟩)) | go_in)
      have a2 := A1.out
      go_quiet ((first | (go_at_call 66; exact quiet_l (i_cellsNeeded _ _ _ h5 h6)) | (go_at_call 84; exact quiet_l (i_within_no _ _ _ _ (by omega)))))
      go_wp2
      go_ret
      exact ⟨rfl, below_drewN ((Below.refl _ _).alloc (Nat.le_refl _) _) _⟩
    · have q3 : (k == 3) = false := by simpa using hk3
      have A1 := Lib.hid a1; clear a1 hk3 hc
      cases ch
      all_goals
        go_enter Try.func56, Try.ntmps56
        go_wp2_with (first | (go_at_call 85; refine (i_isDataSize _ _ _).mono ?_; rintro e w' ⟨rfl, rfl⟩) | (go_at_call 84; first | (refine (i_within_yes _ _ _ _ ?_ ?_).mono ?_; omega; omega; rintro e w' ⟨rfl, rfl⟩) | (refine (i_within_no _ _ _ _ ?_).mono ?_; omega; rintro e w' ⟨rfl, rfl⟩)) | go_in)
        have a2 := A1.out
        go_quiet ((first | (go_at_call 66; exact quiet_l (i_cellsNeeded _ _ _ h5 h6)) | (go_at_call 84; exact quiet_l (i_within_no _ _ _ _ (by omega)))))
        go_wp2
        go_ret
        exact ⟨rfl, below_drewN ((Below.refl _ _).alloc (Nat.le_refl _) _) _⟩
  · rw [hd]; clear hd
    have hz := cellsZ_bd (k := k) h5 h6
    have a1 : IntKind.i64.wrap (cellsZ k sz + 20) = cellsZ k sz + 20 := IntWalk.i64_in _ (by omega)
    by_cases hk3 : k = 3
    · subst hk3
      have hc' : ch = false := by
        rcases hc with h | h
        · exact h
        · exact absurd rfl h.2
      subst hc'
      have A1 := Lib.hid a1; clear a1 hc
      go_enter Try.func56, Try.ntmps56
      go_wp2_with (first | (go_at_call 85; refine (i_isDataSize _ _ _).mono ?_; rintro e w' ⟨rfl, rfl⟩) | (go_at_call 84; first | (refine (i_within_yes _ _ _ _ ?_ ?_).mono ?_; omega; omega; rintro e w' ⟨rfl, rfl⟩) | (refine (i_within_no _ _ _ _ ?_).mono ?_; omega; rintro e w' ⟨rfl, rfl⟩)) | go_in)
      have a2 := A1.out
      go_quiet ((first | (go_at_call 66; exact quiet_l (i_cellsNeeded _ _ _ h5 h6)) | (go_at_call 84; exact quiet_l (i_within_yes _ _ _ _ (by omega) (by omega)))))
      go_wp2
      go_ret
      exact ⟨rfl, below_drewN ((Below.refl _ _).alloc (Nat.le_refl _) _) _⟩
    · have q3 : (k == 3) = false := by simpa using hk3
      have A1 := Lib.hid a1; clear a1 hk3 hc
      cases ch
      all_goals
        go_enter Try.func56, Try.ntmps56
        go_wp2_with (first | (go_at_call 85; refine (i_isDataSize _ _ _).mono ?_; rintro e w' ⟨rfl, rfl⟩) | (go_at_call 84; first | (refine (i_within_yes _ _ _ _ ?_ ?_).mono ?_; omega; omega; rintro e w' ⟨rfl, rfl⟩) | (refine (i_within_no _ _ _ _ ?_).mono ?_; omega; rintro e w' ⟨rfl, rfl⟩)) | go_in)
        have a2 := A1.out
        go_quiet ((first | (go_at_call 66; exact quiet_l (i_cellsNeeded _ _ _ h5 h6)) | (go_at_call 84; exact quiet_l (i_within_yes _ _ _ _ (by omega) (by omega)))))
        go_wp2
        go_ret
        exact ⟨rfl, below_drewN ((Below.refl _ _).alloc (Nat.le_refl _) _) _⟩
theorem s_IsDescriptor (nd k sz du : Int) (ch : Bool) (w : World) :
    Calls Try.prog 57 #[.agg #[.int .i64 nd, .int .i64 k, .int .i64 sz, .int .i64 du, .bool ch]] w fun e w' => e = .returned (.bool (descOk nd k sz du ch)) ∧ Below w.heap.size w w' := by
  rcases desc_ways nd k sz du ch with ⟨h, hd⟩ | ⟨h0, h1, h, hd⟩ | ⟨h0, h1, h2, h3, h, hd⟩ | ⟨h0, h1, rfl, h, rfl, hd⟩ | ⟨h0, h1, h2, h3, h4, h5, h6, hc, h7, hd⟩ | ⟨h0, h1, h2, h3, h4, h5, h6, hc, h7, h8, hd⟩
  · rw [hd]; clear hd
    rcases h with h | h
    all_goals
      go_enter Try.func57, Try.ntmps57
      go_wp2_with (first | (go_at_call 80; refine (s_l06Size _ _ _).mono ?_; rintro e w' ⟨rfl, rfl⟩) | (go_at_call 79; first | (refine (s_l01In_yes _ _ _ _ ?_ ?_).mono ?_; omega; omega; rintro e w' ⟨rfl, rfl⟩) | (refine (s_l01In_no _ _ _ _ ?_).mono ?_; omega; rintro e w' ⟨rfl, rfl⟩)) | go_in)
      go_ret
      exact ⟨rfl, (Below.refl _ _).alloc (Nat.le_refl _) _⟩
  · rw [hd]; clear hd
    rcases h with h | h
    all_goals
      go_enter Try.func57, Try.ntmps57
      go_wp2_with (first | (go_at_call 80; refine (s_l06Size _ _ _).mono ?_; rintro e w' ⟨rfl, rfl⟩) | (go_at_call 79; first | (refine (s_l01In_yes _ _ _ _ ?_ ?_).mono ?_; omega; omega; rintro e w' ⟨rfl, rfl⟩) | (refine (s_l01In_no _ _ _ _ ?_).mono ?_; omega; rintro e w' ⟨rfl, rfl⟩)) | go_in)
      go_ret
      exact ⟨rfl, (Below.refl _ _).alloc (Nat.le_refl _) _⟩
  · rw [hd]; clear hd
    go_enter Try.func57, Try.ntmps57
    go_wp2_with (first | (go_at_call 80; refine (s_l06Size _ _ _).mono ?_; rintro e w' ⟨rfl, rfl⟩) | (go_at_call 79; first | (refine (s_l01In_yes _ _ _ _ ?_ ?_).mono ?_; omega; omega; rintro e w' ⟨rfl, rfl⟩) | (refine (s_l01In_no _ _ _ _ ?_).mono ?_; omega; rintro e w' ⟨rfl, rfl⟩)) | go_in)
    go_ret
    exact ⟨rfl, (Below.refl _ _).alloc (Nat.le_refl _) _⟩
  · rw [hd]; clear hd
    go_enter Try.func57, Try.ntmps57
    go_wp2_with (first | (go_at_call 80; refine (s_l06Size _ _ _).mono ?_; rintro e w' ⟨rfl, rfl⟩) | (go_at_call 79; first | (refine (s_l01In_yes _ _ _ _ ?_ ?_).mono ?_; omega; omega; rintro e w' ⟨rfl, rfl⟩) | (refine (s_l01In_no _ _ _ _ ?_).mono ?_; omega; rintro e w' ⟨rfl, rfl⟩)) | go_in)
    go_ret
    exact ⟨rfl, (Below.refl _ _).alloc (Nat.le_refl _) _⟩
  · rw [hd]; clear hd
    have hz := cellsZ_bd (k := k) h5 h6
    have a1 : IntKind.i64.wrap (cellsZ k sz + 20) = cellsZ k sz + 20 := IntWalk.i64_in _ (by omega)
    by_cases hk3 : k = 3
    · subst hk3
      have hc' : ch = false := by
        rcases hc with h | h
        · exact h
        · exact absurd rfl h.2
      subst hc'
      have A1 := Lib.hid a1; clear a1 hc
      go_enter Try.func57, Try.ntmps57
      go_wp2_with (first | (go_at_call 80; refine (s_l06Size _ _ _).mono ?_; rintro e w' ⟨rfl, rfl⟩) | (go_at_call 79; first | (refine (s_l01In_yes _ _ _ _ ?_ ?_).mono ?_; omega; omega; rintro e w' ⟨rfl, rfl⟩) | (refine (s_l01In_no _ _ _ _ ?_).mono ?_; omega; rintro e w' ⟨rfl, rfl⟩)) | go_in)
      have a2 := A1.out
      go_quiet ((first | (go_at_call 65; exact quiet_l (s_l08Cells _ _ _ h5 h6)) | (go_at_call 79; exact quiet_l (s_l01In_no _ _ _ _ (by omega)))))
      go_wp2
      go_ret
      exact ⟨rfl, below_drewN ((Below.refl _ _).alloc (Nat.le_refl _) _) _⟩
    · have q3 : (k == 3) = false := by simpa using hk3
      have A1 := Lib.hid a1; clear a1 hk3 hc
      cases ch
      all_goals
        go_enter Try.func57, Try.ntmps57
        go_wp2_with (first | (go_at_call 80; refine (s_l06Size _ _ _).mono ?_; rintro e w' ⟨rfl, rfl⟩) | (go_at_call 79; first | (refine (s_l01In_yes _ _ _ _ ?_ ?_).mono ?_; omega; omega; rintro e w' ⟨rfl, rfl⟩) | (refine (s_l01In_no _ _ _ _ ?_).mono ?_; omega; rintro e w' ⟨rfl, rfl⟩)) | go_in)
        have a2 := A1.out
        go_quiet ((first | (go_at_call 65; exact quiet_l (s_l08Cells _ _ _ h5 h6)) | (go_at_call 79; exact quiet_l (s_l01In_no _ _ _ _ (by omega)))))
        go_wp2
        go_ret
        exact ⟨rfl, below_drewN ((Below.refl _ _).alloc (Nat.le_refl _) _) _⟩
  · rw [hd]; clear hd
    have hz := cellsZ_bd (k := k) h5 h6
    have a1 : IntKind.i64.wrap (cellsZ k sz + 20) = cellsZ k sz + 20 := IntWalk.i64_in _ (by omega)
    by_cases hk3 : k = 3
    · subst hk3
      have hc' : ch = false := by
        rcases hc with h | h
        · exact h
        · exact absurd rfl h.2
      subst hc'
      have A1 := Lib.hid a1; clear a1 hc
      go_enter Try.func57, Try.ntmps57
      go_wp2_with (first | (go_at_call 80; refine (s_l06Size _ _ _).mono ?_; rintro e w' ⟨rfl, rfl⟩) | (go_at_call 79; first | (refine (s_l01In_yes _ _ _ _ ?_ ?_).mono ?_; omega; omega; rintro e w' ⟨rfl, rfl⟩) | (refine (s_l01In_no _ _ _ _ ?_).mono ?_; omega; rintro e w' ⟨rfl, rfl⟩)) | go_in)
      have a2 := A1.out
      go_quiet ((first | (go_at_call 65; exact quiet_l (s_l08Cells _ _ _ h5 h6)) | (go_at_call 79; exact quiet_l (s_l01In_yes _ _ _ _ (by omega) (by omega)))))
      go_wp2
      go_ret
      exact ⟨rfl, below_drewN ((Below.refl _ _).alloc (Nat.le_refl _) _) _⟩
    · have q3 : (k == 3) = false := by simpa using hk3
      have A1 := Lib.hid a1; clear a1 hk3 hc
      cases ch
      all_goals
        go_enter Try.func57, Try.ntmps57
        go_wp2_with (first | (go_at_call 80; refine (s_l06Size _ _ _).mono ?_; rintro e w' ⟨rfl, rfl⟩) | (go_at_call 79; first | (refine (s_l01In_yes _ _ _ _ ?_ ?_).mono ?_; omega; omega; rintro e w' ⟨rfl, rfl⟩) | (refine (s_l01In_no _ _ _ _ ?_).mono ?_; omega; rintro e w' ⟨rfl, rfl⟩)) | go_in)
        have a2 := A1.out
        go_quiet ((first | (go_at_call 65; exact quiet_l (s_l08Cells _ _ _ h5 h6)) | (go_at_call 79; exact quiet_l (s_l01In_yes _ _ _ _ (by omega) (by omega)))))
        go_wp2
        go_ret
        exact ⟨rfl, below_drewN ((Below.refl _ _).alloc (Nat.le_refl _) _) _⟩
theorem h_toDescriptor (nd k sz du : Int) (ch : Bool) (w : World) :
    Calls Try.prog 15 #[.agg #[.int .i64 nd, .int .i64 k, .int .i64 sz, .int .i64 du, .bool ch]] w fun e w' => e = .returned (.agg #[.int .i64 nd, .int .i64 k, .int .i64 sz, .int .i64 du, .bool ch]) ∧ Below w.heap.size w w' := by
  go_enter Try.func15, Try.ntmps15
  go_wp2
  exact bodyPost_ret (v := .agg #[.int .i64 nd, .int .i64 k, .int .i64 sz, .int .i64 du, .bool ch]) (by simp [results, Try.results15, go_sem]) rfl ⟨rfl, (((Below.refl _ _).alloc (Nat.le_refl _) _).alloc (by simp) _).alloc (by simp; omega) _⟩
end Go.Proofs.Ytecelofoffdjlaa

/- Contracts of the functions on kinds, sizes and descriptors, of the program and of the reference, over the same plain functions. -/
import Derived.Test.YtpcdachkmekjgaaHelp
import Derived.Test.YtpcdachkmekjgaaSc
namespace Go.Proofs.Ytpcdachkmekjgaa
open Go.RowKit
set_option linter.unusedSimpArgs false
set_option linter.unusedVariables false

def sizeOk (k d : Int) : Bool := decide (k = 0 ∧ 0 ≤ d ∧ d ≤ 32 ∨ k = 2 ∧ 1 ≤ d ∧ d ≤ 32 ∨ k ≠ 0 ∧ k ≠ 2 ∧ d = 0)
theorem sizeOk_iff (k d : Int) : sizeOk k d = true ↔ (k = 0 ∧ 0 ≤ d ∧ d ≤ 32 ∨ k = 2 ∧ 1 ≤ d ∧ d ≤ 32 ∨ k ≠ 0 ∧ k ≠ 2 ∧ d = 0) := by simp [sizeOk]
theorem sizeOk_bd {k d : Int} (h : sizeOk k d = true) : 0 ≤ d ∧ d ≤ 32 := by have := (sizeOk_iff k d).1 h; omega
theorem sizeOk_yes {k d : Int} (h : k = 0 ∧ 0 ≤ d ∧ d ≤ 32 ∨ k = 2 ∧ 1 ≤ d ∧ d ≤ 32 ∨ k ≠ 0 ∧ k ≠ 2 ∧ d = 0) : sizeOk k d = true := (sizeOk_iff k d).2 h
theorem sizeOk_no {k d : Int} (h : ¬ (k = 0 ∧ 0 ≤ d ∧ d ≤ 32 ∨ k = 2 ∧ 1 ≤ d ∧ d ≤ 32 ∨ k ≠ 0 ∧ k ≠ 2 ∧ d = 0)) : sizeOk k d = false := by rw [Bool.eq_false_iff]; intro e; exact h ((sizeOk_iff k d).1 e)
theorem size_ways (k d : Int) : (k = 0 ∧ 0 ≤ d ∧ d ≤ 32) ∨ (k = 0 ∧ d < 0) ∨ (k = 0 ∧ 32 < d) ∨ (k = 2 ∧ 1 ≤ d ∧ d ≤ 32) ∨ (k = 2 ∧ d < 1) ∨ (k = 2 ∧ 32 < d) ∨ (k ≠ 0 ∧ k ≠ 2 ∧ d = 0) ∨ (k ≠ 0 ∧ k ≠ 2 ∧ d ≠ 0) := by omega
theorem i_isDataSize (k d : Int) (w : World) :
    Calls Try.prog 78 #[.int .i64 k, .int .i64 d] w fun e w' => e = .returned (.bool (sizeOk k d)) ∧ w = w' := by
  have hs : sizeOk k d = true ∨ sizeOk k d = false := by cases sizeOk k d <;> simp
  rcases size_ways k d with ⟨rfl, h1, h2⟩ | ⟨rfl, h1⟩ | ⟨rfl, h1⟩ | ⟨rfl, h1, h2⟩ | ⟨rfl, h1⟩ | ⟨rfl, h1⟩ | ⟨h0, h2, h3⟩ | ⟨h0, h2, h3⟩
  · rw [sizeOk_yes (by omega)]
    go_enter Try.func78, Try.ntmps78
    go_wp2_with (go_at_call 77; first | (refine (i_within_yes _ _ _ _ ?_ ?_).mono ?_; omega; omega; rintro e w' ⟨rfl, rfl⟩) | (refine (i_within_no _ _ _ _ ?_).mono ?_; omega; rintro e w' ⟨rfl, rfl⟩))
    go_ret
    exact ⟨rfl, rfl⟩
  · rw [sizeOk_no (by omega)]
    go_enter Try.func78, Try.ntmps78
    go_wp2_with (go_at_call 77; first | (refine (i_within_yes _ _ _ _ ?_ ?_).mono ?_; omega; omega; rintro e w' ⟨rfl, rfl⟩) | (refine (i_within_no _ _ _ _ ?_).mono ?_; omega; rintro e w' ⟨rfl, rfl⟩))
    go_ret
    exact ⟨rfl, rfl⟩
  · rw [sizeOk_no (by omega)]
    go_enter Try.func78, Try.ntmps78
    go_wp2_with (go_at_call 77; first | (refine (i_within_yes _ _ _ _ ?_ ?_).mono ?_; omega; omega; rintro e w' ⟨rfl, rfl⟩) | (refine (i_within_no _ _ _ _ ?_).mono ?_; omega; rintro e w' ⟨rfl, rfl⟩))
    go_ret
    exact ⟨rfl, rfl⟩
  · rw [sizeOk_yes (by omega)]
    go_enter Try.func78, Try.ntmps78
    go_wp2_with (go_at_call 77; first | (refine (i_within_yes _ _ _ _ ?_ ?_).mono ?_; omega; omega; rintro e w' ⟨rfl, rfl⟩) | (refine (i_within_no _ _ _ _ ?_).mono ?_; omega; rintro e w' ⟨rfl, rfl⟩))
    go_ret
    exact ⟨rfl, rfl⟩
  · rw [sizeOk_no (by omega)]
    go_enter Try.func78, Try.ntmps78
    go_wp2_with (go_at_call 77; first | (refine (i_within_yes _ _ _ _ ?_ ?_).mono ?_; omega; omega; rintro e w' ⟨rfl, rfl⟩) | (refine (i_within_no _ _ _ _ ?_).mono ?_; omega; rintro e w' ⟨rfl, rfl⟩))
    go_ret
    exact ⟨rfl, rfl⟩
  · rw [sizeOk_no (by omega)]
    go_enter Try.func78, Try.ntmps78
    go_wp2_with (go_at_call 77; first | (refine (i_within_yes _ _ _ _ ?_ ?_).mono ?_; omega; omega; rintro e w' ⟨rfl, rfl⟩) | (refine (i_within_no _ _ _ _ ?_).mono ?_; omega; rintro e w' ⟨rfl, rfl⟩))
    go_ret
    exact ⟨rfl, rfl⟩
  · rw [sizeOk_yes (by omega)]
    have h0' : (k == 0) = false := by simpa using h0
    have h2' : (k == 2) = false := by simpa using h2
    have h3' : (d == 0) = true := by simpa using h3
    clear h0 h2 h3
    go_enter Try.func78, Try.ntmps78
    go_wp2_with (go_at_call 77; first | (refine (i_within_yes _ _ _ _ ?_ ?_).mono ?_; omega; omega; rintro e w' ⟨rfl, rfl⟩) | (refine (i_within_no _ _ _ _ ?_).mono ?_; omega; rintro e w' ⟨rfl, rfl⟩))
    go_ret
    exact ⟨rfl, rfl⟩
  · rw [sizeOk_no (by omega)]
    have h0' : (k == 0) = false := by simpa using h0
    have h2' : (k == 2) = false := by simpa using h2
    have h3' : (d == 0) = false := by simpa using h3
    clear h0 h2 h3
    go_enter Try.func78, Try.ntmps78
    go_wp2_with (go_at_call 77; first | (refine (i_within_yes _ _ _ _ ?_ ?_).mono ?_; omega; omega; rintro e w' ⟨rfl, rfl⟩) | (refine (i_within_no _ _ _ _ ?_).mono ?_; omega; rintro e w' ⟨rfl, rfl⟩))
    go_ret
    exact ⟨rfl, rfl⟩
theorem s_l06Size (k d : Int) (w : World) :
    Calls Try.prog 81 #[.int .i64 k, .int .i64 d] w fun e w' => e = .returned (.bool (sizeOk k d)) ∧ w = w' := by
  have hs : sizeOk k d = true ∨ sizeOk k d = false := by cases sizeOk k d <;> simp
  rcases size_ways k d with ⟨rfl, h1, h2⟩ | ⟨rfl, h1⟩ | ⟨rfl, h1⟩ | ⟨rfl, h1, h2⟩ | ⟨rfl, h1⟩ | ⟨rfl, h1⟩ | ⟨h0, h2, h3⟩ | ⟨h0, h2, h3⟩
  · rw [sizeOk_yes (by omega)]
    go_enter Try.func81, Try.ntmps81
    go_wp2_with (go_at_call 80; first | (refine (s_l01In_yes _ _ _ _ ?_ ?_).mono ?_; omega; omega; rintro e w' ⟨rfl, rfl⟩) | (refine (s_l01In_no _ _ _ _ ?_).mono ?_; omega; rintro e w' ⟨rfl, rfl⟩))
    go_ret
    exact ⟨rfl, rfl⟩
  · rw [sizeOk_no (by omega)]
    go_enter Try.func81, Try.ntmps81
    go_wp2_with (go_at_call 80; first | (refine (s_l01In_yes _ _ _ _ ?_ ?_).mono ?_; omega; omega; rintro e w' ⟨rfl, rfl⟩) | (refine (s_l01In_no _ _ _ _ ?_).mono ?_; omega; rintro e w' ⟨rfl, rfl⟩))
    go_ret
    exact ⟨rfl, rfl⟩
  · rw [sizeOk_no (by omega)]
    go_enter Try.func81, Try.ntmps81
    go_wp2_with (go_at_call 80; first | (refine (s_l01In_yes _ _ _ _ ?_ ?_).mono ?_; omega; omega; rintro e w' ⟨rfl, rfl⟩) | (refine (s_l01In_no _ _ _ _ ?_).mono ?_; omega; rintro e w' ⟨rfl, rfl⟩))
    go_ret
    exact ⟨rfl, rfl⟩
  · rw [sizeOk_yes (by omega)]
    go_enter Try.func81, Try.ntmps81
    go_wp2_with (go_at_call 80; first | (refine (s_l01In_yes _ _ _ _ ?_ ?_).mono ?_; omega; omega; rintro e w' ⟨rfl, rfl⟩) | (refine (s_l01In_no _ _ _ _ ?_).mono ?_; omega; rintro e w' ⟨rfl, rfl⟩))
    go_ret
    exact ⟨rfl, rfl⟩
  · rw [sizeOk_no (by omega)]
    go_enter Try.func81, Try.ntmps81
    go_wp2_with (go_at_call 80; first | (refine (s_l01In_yes _ _ _ _ ?_ ?_).mono ?_; omega; omega; rintro e w' ⟨rfl, rfl⟩) | (refine (s_l01In_no _ _ _ _ ?_).mono ?_; omega; rintro e w' ⟨rfl, rfl⟩))
    go_ret
    exact ⟨rfl, rfl⟩
  · rw [sizeOk_no (by omega)]
    go_enter Try.func81, Try.ntmps81
    go_wp2_with (go_at_call 80; first | (refine (s_l01In_yes _ _ _ _ ?_ ?_).mono ?_; omega; omega; rintro e w' ⟨rfl, rfl⟩) | (refine (s_l01In_no _ _ _ _ ?_).mono ?_; omega; rintro e w' ⟨rfl, rfl⟩))
    go_ret
    exact ⟨rfl, rfl⟩
  · rw [sizeOk_yes (by omega)]
    have h0' : (k == 0) = false := by simpa using h0
    have h2' : (k == 2) = false := by simpa using h2
    have h3' : (d == 0) = true := by simpa using h3
    clear h0 h2 h3
    go_enter Try.func81, Try.ntmps81
    go_wp2_with (go_at_call 80; first | (refine (s_l01In_yes _ _ _ _ ?_ ?_).mono ?_; omega; omega; rintro e w' ⟨rfl, rfl⟩) | (refine (s_l01In_no _ _ _ _ ?_).mono ?_; omega; rintro e w' ⟨rfl, rfl⟩))
    go_ret
    exact ⟨rfl, rfl⟩
  · rw [sizeOk_no (by omega)]
    have h0' : (k == 0) = false := by simpa using h0
    have h2' : (k == 2) = false := by simpa using h2
    have h3' : (d == 0) = false := by simpa using h3
    clear h0 h2 h3
    go_enter Try.func81, Try.ntmps81
    go_wp2_with (go_at_call 80; first | (refine (s_l01In_yes _ _ _ _ ?_ ?_).mono ?_; omega; omega; rintro e w' ⟨rfl, rfl⟩) | (refine (s_l01In_no _ _ _ _ ?_).mono ?_; omega; rintro e w' ⟨rfl, rfl⟩))
    go_ret
    exact ⟨rfl, rfl⟩
theorem ret_int {k : IntKind} {a b : Int} (h : a = b) : Ending.returned (.int k a) = .returned (.int k b) := by rw [h]
theorem kind3 (k : Int) : k = 0 ∨ k = 2 ∨ (k ≠ 0 ∧ k ≠ 2) := by omega
def bodyZ (k d : Int) : Int := if k = 0 then 2 + d else if k = 2 then 10 + d else 9
theorem bodyZ_bd {k d : Int} (h0 : 0 ≤ d) (h1 : d ≤ 32) : 2 ≤ bodyZ k d ∧ bodyZ k d ≤ 42 := by unfold bodyZ; split <;> (try split) <;> omega
def bodyC (k d : Int) : Int := if ¬ (0 ≤ k ∧ k ≤ 3) then 1 else if sizeOk k d = true then 0 else 2
def bodyV (k d : Int) : Int := if bodyC k d = 0 then bodyZ k d else 0
def sealV (k d : Int) : Int := if bodyC k d = 0 then bodyZ k d + 3 else 0
def cellsZ (k d : Int) : Int := 11 + 10 * (bodyZ k d + 3)
def cellsV (k d : Int) : Int := if bodyC k d = 0 then cellsZ k d else 0
theorem bodyC_ok {k d : Int} (h : bodyC k d = 0) : 0 ≤ k ∧ k ≤ 3 ∧ sizeOk k d = true ∧ 0 ≤ d ∧ d ≤ 32 := by
  unfold bodyC at h
  split at h
  · cases h
  · split at h
    · rename_i hk hs; have := sizeOk_bd hs; exact ⟨by omega, by omega, hs, this.1, this.2⟩
    · cases h
theorem bodyV_bd (k d : Int) : 0 ≤ bodyV k d ∧ bodyV k d ≤ 42 := by
  unfold bodyV; split
  · rename_i h; have := bodyC_ok h; have := bodyZ_bd (k := k) this.2.2.2.1 this.2.2.2.2; omega
  · omega
theorem body_ways (k d : Int) : ((k < 0 ∨ 3 < k) ∧ bodyV k d = 0 ∧ bodyC k d = 1) ∨ (0 ≤ k ∧ k ≤ 3 ∧ sizeOk k d = false ∧ bodyV k d = 0 ∧ bodyC k d = 2) ∨
    (0 ≤ k ∧ k ≤ 3 ∧ sizeOk k d = true ∧ 0 ≤ d ∧ d ≤ 32 ∧ bodyV k d = bodyZ k d ∧ bodyC k d = 0) := by
  by_cases h : 0 ≤ k ∧ k ≤ 3
  · cases hs : sizeOk k d
    · refine .inr (.inl ⟨h.1, h.2, rfl, ?_, ?_⟩) <;> simp [bodyV, bodyC, h, hs]
    · have := sizeOk_bd hs
      refine .inr (.inr ⟨h.1, h.2, rfl, this.1, this.2, ?_, ?_⟩) <;> simp [bodyV, bodyC, h, hs]
  · refine .inl ⟨by omega, ?_, ?_⟩ <;> simp [bodyV, bodyC, h]
theorem seal_lem (k d : Int) : (bodyC k d = 0 → sealV k d = bodyV k d + 3) ∧ (bodyC k d ≠ 0 → sealV k d = 0) := by
  constructor <;> intro h <;> simp [sealV, bodyV, h]
theorem cells_lem (k d : Int) : (bodyC k d = 0 → cellsV k d = cellsZ k d) ∧ (bodyC k d ≠ 0 → cellsV k d = 0) := by
  constructor <;> intro h <;> simp [cellsV, h]
theorem i_bodySize (k d : Int) (w : World) (h0 : 0 ≤ d) (h1 : d ≤ 32) :
    Calls Try.prog 83 #[.int .i64 k, .int .i64 d] w fun e w' => e = .returned (.int .i64 (bodyZ k d)) ∧ w = w' := by
  rcases kind3 k with rfl | rfl | ⟨g0, g2⟩
  · rw [show bodyZ 0 d = 2 + d from rfl]
    go_enter Try.func83, Try.ntmps83
    go_wp2
    go_ret
    exact ⟨ret_int (by omega), rfl⟩
  · rw [show bodyZ 2 d = 10 + d from rfl]
    go_enter Try.func83, Try.ntmps83
    go_wp2
    go_ret
    exact ⟨ret_int (by omega), rfl⟩
  · rw [show bodyZ k d = 9 by simp [bodyZ, g0, g2]]
    have q0 : (k == 0) = false := by simpa using g0
    have q2 : (k == 2) = false := by simpa using g2
    have q0' : (k != 0) = true := by simpa using g0
    clear g0 g2
    go_enter Try.func83, Try.ntmps83
    go_wp2
    go_ret
    exact ⟨rfl, rfl⟩
theorem i_BodySize (k d : Int) (w : World) :
    Calls Try.prog 41 #[.int .i64 k, .int .i64 d] w fun e w' => e = .returned (.tuple #[.int .i64 (bodyV k d), .int .i64 (bodyC k d)]) ∧ w = w' := by
  rcases body_ways k d with ⟨h, ev, ec⟩ | ⟨h0, h1, hs, ev, ec⟩ | ⟨h0, h1, hs, h2, h3, ev, ec⟩
  · rw [ev, ec]; clear ev ec
    rcases h with h | h
    all_goals
      go_enter Try.func41, Try.ntmps41
      go_wp2_with (first | (go_at_call 78; refine (i_isDataSize _ _ _).mono ?_; rintro e w' ⟨rfl, rfl⟩) | (go_at_call 83; refine (i_bodySize _ _ _ (by omega) (by omega)).mono ?_; rintro e w' ⟨rfl, rfl⟩) | (go_at_call 77; first | (refine (i_within_yes _ _ _ _ ?_ ?_).mono ?_; omega; omega; rintro e w' ⟨rfl, rfl⟩) | (refine (i_within_no _ _ _ _ ?_).mono ?_; omega; rintro e w' ⟨rfl, rfl⟩)) | go_in)
      go_ret2
      exact ⟨rfl, rfl⟩
  · rw [ev, ec]; clear ev ec
    go_enter Try.func41, Try.ntmps41
    go_wp2_with (first | (go_at_call 78; refine (i_isDataSize _ _ _).mono ?_; rintro e w' ⟨rfl, rfl⟩) | (go_at_call 83; refine (i_bodySize _ _ _ (by omega) (by omega)).mono ?_; rintro e w' ⟨rfl, rfl⟩) | (go_at_call 77; first | (refine (i_within_yes _ _ _ _ ?_ ?_).mono ?_; omega; omega; rintro e w' ⟨rfl, rfl⟩) | (refine (i_within_no _ _ _ _ ?_).mono ?_; omega; rintro e w' ⟨rfl, rfl⟩)) | go_in)
    go_ret2
    exact ⟨rfl, rfl⟩
  · rw [ev, ec]; clear ev ec
    go_enter Try.func41, Try.ntmps41
    go_wp2_with (first | (go_at_call 78; refine (i_isDataSize _ _ _).mono ?_; rintro e w' ⟨rfl, rfl⟩) | (go_at_call 83; refine (i_bodySize _ _ _ (by omega) (by omega)).mono ?_; rintro e w' ⟨rfl, rfl⟩) | (go_at_call 77; first | (refine (i_within_yes _ _ _ _ ?_ ?_).mono ?_; omega; omega; rintro e w' ⟨rfl, rfl⟩) | (refine (i_within_no _ _ _ _ ?_).mono ?_; omega; rintro e w' ⟨rfl, rfl⟩)) | go_in)
    go_ret2
    exact ⟨rfl, rfl⟩
theorem i_SealSize (k d : Int) (w : World) :
    Calls Try.prog 46 #[.int .i64 k, .int .i64 d] w fun e w' => e = .returned (.tuple #[.int .i64 (sealV k d), .int .i64 (bodyC k d)]) ∧ w = w' := by
  have hc := Lib.hid (seal_lem k d)
  have hb := bodyV_bd k d
  have hq : bodyC k d = 0 ∨ bodyC k d ≠ 0 := by omega
  rcases hq with hq | hq
  · have q : (bodyC k d != 0) = false := by simpa using hq
    have e1 := hc.out.1 hq
    rw [e1]
    have Hq := Lib.hid hq
    clear hq e1
    go_enter Try.func46, Try.ntmps46
    go_wp2_with (first | (go_at_call 41; refine (i_BodySize _ _ _).mono ?_; rintro e w' ⟨rfl, rfl⟩) | go_in)
    go_ret2
    exact ⟨by rw [Hq.out]; rfl, rfl⟩
  · have q : (bodyC k d != 0) = true := by simpa using hq
    have e1 := hc.out.2 hq
    rw [e1]
    clear hq e1
    go_enter Try.func46, Try.ntmps46
    go_wp2_with (first | (go_at_call 41; refine (i_BodySize _ _ _).mono ?_; rintro e w' ⟨rfl, rfl⟩) | go_in)
    go_ret2
    exact ⟨rfl, rfl⟩
theorem cellsZ_bd {k d : Int} (h0 : 0 ≤ d) (h1 : d ≤ 32) : 61 ≤ cellsZ k d ∧ cellsZ k d ≤ 461 := by have := bodyZ_bd (k := k) h0 h1; unfold cellsZ; omega
def descOk (nd k sz du : Int) (ch : Bool) : Bool := decide (0 ≤ nd ∧ nd ≤ 31 ∧ 0 ≤ k ∧ k ≤ 3) && sizeOk k sz && !(ch && decide (k = 3)) && decide (cellsZ k sz + 20 ≤ du ∧ du ≤ 1000)
theorem desc_ways (nd k sz du : Int) (ch : Bool) :
    ((nd < 0 ∨ 31 < nd) ∧ descOk nd k sz du ch = false) ∨
    (0 ≤ nd ∧ nd ≤ 31 ∧ (k < 0 ∨ 3 < k) ∧ descOk nd k sz du ch = false) ∨
    (0 ≤ nd ∧ nd ≤ 31 ∧ 0 ≤ k ∧ k ≤ 3 ∧ sizeOk k sz = false ∧ descOk nd k sz du ch = false) ∨
    (0 ≤ nd ∧ nd ≤ 31 ∧ k = 3 ∧ sizeOk 3 sz = true ∧ ch = true ∧ descOk nd k sz du ch = false) ∨
    (0 ≤ nd ∧ nd ≤ 31 ∧ 0 ≤ k ∧ k ≤ 3 ∧ sizeOk k sz = true ∧ 0 ≤ sz ∧ sz ≤ 32 ∧ (ch = false ∨ ch = true ∧ k ≠ 3) ∧ (du < cellsZ k sz + 20 ∨ 1000 < du) ∧ descOk nd k sz du ch = false) ∨
    (0 ≤ nd ∧ nd ≤ 31 ∧ 0 ≤ k ∧ k ≤ 3 ∧ sizeOk k sz = true ∧ 0 ≤ sz ∧ sz ≤ 32 ∧ (ch = false ∨ ch = true ∧ k ≠ 3) ∧ cellsZ k sz + 20 ≤ du ∧ du ≤ 1000 ∧ descOk nd k sz du ch = true) := by
  by_cases hn : 0 ≤ nd ∧ nd ≤ 31
  · by_cases hk : 0 ≤ k ∧ k ≤ 3
    · cases hs : sizeOk k sz
      · exact .inr (.inr (.inl ⟨hn.1, hn.2, hk.1, hk.2, rfl, by simp [descOk, hs]⟩))
      · have hb := sizeOk_bd hs
        by_cases hc : ch = true ∧ k = 3
        · obtain ⟨rfl, rfl⟩ := hc
          exact .inr (.inr (.inr (.inl ⟨hn.1, hn.2, rfl, hs, rfl, by simp [descOk]⟩)))
        · have hc' : ch = false ∨ ch = true ∧ k ≠ 3 := by
            cases ch
            · exact .inl rfl
            · exact .inr ⟨rfl, fun e => hc ⟨rfl, e⟩⟩
          have hcc : (ch && decide (k = 3)) = false := by
            rcases hc' with rfl | ⟨rfl, h⟩ <;> simp_all
          by_cases hd : cellsZ k sz + 20 ≤ du ∧ du ≤ 1000
          · exact .inr (.inr (.inr (.inr (.inr ⟨hn.1, hn.2, hk.1, hk.2, rfl, hb.1, hb.2, hc', hd.1, hd.2, by simp [descOk, hn, hk, hs, hcc, hd]⟩))))
          · exact .inr (.inr (.inr (.inr (.inl ⟨hn.1, hn.2, hk.1, hk.2, rfl, hb.1, hb.2, hc', by omega, by
              have : decide (cellsZ k sz + 20 ≤ du ∧ du ≤ 1000) = false := decide_eq_false hd
              simp only [descOk, this, Bool.and_false]⟩))))
    · refine .inr (.inl ⟨hn.1, hn.2, by omega, ?_⟩)
      have : decide (0 ≤ nd ∧ nd ≤ 31 ∧ 0 ≤ k ∧ k ≤ 3) = false := decide_eq_false (by omega)
      simp only [descOk, this, Bool.false_and]
  · refine .inl ⟨by omega, ?_⟩
    have : decide (0 ≤ nd ∧ nd ≤ 31 ∧ 0 ≤ k ∧ k ≤ 3) = false := decide_eq_false (by omega)
    simp only [descOk, this, Bool.false_and]
end Go.Proofs.Ytpcdachkmekjgaa

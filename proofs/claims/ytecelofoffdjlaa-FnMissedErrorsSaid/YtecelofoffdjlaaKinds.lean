/- Contracts of KindOfHead, KindName, HasStateAndData; the walk of the law on kinds. -/
import Derived.Test.YtecelofoffdjlaaDrawK
import Derived.Test.YtecelofoffdjlaaDesc
namespace Go.Proofs.Ytecelofoffdjlaa
open Go.RowKit
set_option linter.unusedSimpArgs false
set_option linter.unusedVariables false
theorem h_big (A : Option Addr) (n c : Nat) (w : World) :
    Calls Try.prog 40 #[.slice A n c] w fun e w' => e = .returned (.bool (decide ((4096 : Int) < n))) ∧ w = w' := by
  go_enter Try.func40, Try.ntmps40
  go_wp2
  go_ret
  exact ⟨rfl, rfl⟩
def khV (h : Int) : Int := if 0 ≤ h ∧ h ≤ 255 then h / 64 else 0
def khC (h : Int) : Int := if 0 ≤ h ∧ h ≤ 255 then 0 else 2
theorem i_KindOfHead (h : Int) (w : World) : Calls Try.prog 49 #[.int .i64 h] w fun e w' => e = .returned (.tuple #[.int .i64 (khV h), .int .i64 (khC h)]) ∧ w = w' := by
  rcases (show h < 0 ∨ 255 < h ∨ (0 ≤ h ∧ h ≤ 255) by omega) with h1 | h1 | ⟨h1, h2⟩
  · rw [show khV h = 0 by unfold khV; rw [if_neg (by omega)], show khC h = 2 by unfold khC; rw [if_neg (by omega)]]
    go_enter Try.func49, Try.ntmps49
    go_wp2_with (go_at_call 84; first | (refine (i_within_yes _ _ _ _ ?_ ?_).mono ?_; omega; omega; rintro e w' ⟨rfl, rfl⟩) | (refine (i_within_no _ _ _ _ ?_).mono ?_; omega; rintro e w' ⟨rfl, rfl⟩))
    go_ret2
    exact ⟨rfl, rfl⟩
  · rw [show khV h = 0 by unfold khV; rw [if_neg (by omega)], show khC h = 2 by unfold khC; rw [if_neg (by omega)]]
    go_enter Try.func49, Try.ntmps49
    go_wp2_with (go_at_call 84; first | (refine (i_within_yes _ _ _ _ ?_ ?_).mono ?_; omega; omega; rintro e w' ⟨rfl, rfl⟩) | (refine (i_within_no _ _ _ _ ?_).mono ?_; omega; rintro e w' ⟨rfl, rfl⟩))
    go_ret2
    exact ⟨rfl, rfl⟩
  · rw [show khV h = h / 64 by unfold khV; rw [if_pos (by omega)], show khC h = 0 by unfold khC; rw [if_pos (by omega)]]
    go_enter Try.func49, Try.ntmps49
    go_wp2_with (go_at_call 84; first | (refine (i_within_yes _ _ _ _ ?_ ?_).mono ?_; omega; omega; rintro e w' ⟨rfl, rfl⟩) | (refine (i_within_no _ _ _ _ ?_).mono ?_; omega; rintro e w' ⟨rfl, rfl⟩))
    go_ret2
    exact ⟨rfl, rfl⟩
theorem s_KindOfHead (h : Int) (w : World) : Calls Try.prog 50 #[.int .i64 h] w fun e w' => e = .returned (.tuple #[.int .i64 (khV h), .int .i64 (khC h)]) ∧ w = w' := by
  rcases (show h < 0 ∨ 255 < h ∨ (0 ≤ h ∧ h ≤ 255) by omega) with h1 | h1 | ⟨h1, h2⟩
  · rw [show khV h = 0 by unfold khV; rw [if_neg (by omega)], show khC h = 2 by unfold khC; rw [if_neg (by omega)]]
    go_enter Try.func50, Try.ntmps50
    go_wp2_with (go_at_call 79; first | (refine (s_l01In_yes _ _ _ _ ?_ ?_).mono ?_; omega; omega; rintro e w' ⟨rfl, rfl⟩) | (refine (s_l01In_no _ _ _ _ ?_).mono ?_; omega; rintro e w' ⟨rfl, rfl⟩))
    go_ret2
    exact ⟨rfl, rfl⟩
  · rw [show khV h = 0 by unfold khV; rw [if_neg (by omega)], show khC h = 2 by unfold khC; rw [if_neg (by omega)]]
    go_enter Try.func50, Try.ntmps50
    go_wp2_with (go_at_call 79; first | (refine (s_l01In_yes _ _ _ _ ?_ ?_).mono ?_; omega; omega; rintro e w' ⟨rfl, rfl⟩) | (refine (s_l01In_no _ _ _ _ ?_).mono ?_; omega; rintro e w' ⟨rfl, rfl⟩))
    go_ret2
    exact ⟨rfl, rfl⟩
  · rw [show khV h = h / 64 by unfold khV; rw [if_pos (by omega)], show khC h = 0 by unfold khC; rw [if_pos (by omega)]]
    go_enter Try.func50, Try.ntmps50
    go_wp2_with (go_at_call 79; first | (refine (s_l01In_yes _ _ _ _ ?_ ?_).mono ?_; omega; omega; rintro e w' ⟨rfl, rfl⟩) | (refine (s_l01In_no _ _ _ _ ?_).mono ?_; omega; rintro e w' ⟨rfl, rfl⟩))
    go_ret2
    exact ⟨rfl, rfl⟩
def hsB (k : Int) : Bool := decide (1 ≤ k ∧ k ≤ 3)
def hdB (k : Int) : Bool := decide (k = 0 ∨ k = 2)
theorem kind6 (k : Int) : k < 0 ∨ 3 < k ∨ k = 0 ∨ k = 1 ∨ k = 2 ∨ k = 3 := by omega
theorem i_HasStateAndData (k : Int) (w : World) : Calls Try.prog 44 #[.int .i64 k] w fun e w' => e = .returned (.tuple #[.bool (hsB k), .bool (hdB k)]) ∧ w = w' := by
  rcases kind6 k with h | h | rfl | rfl | rfl | rfl
  · rw [show hsB k = false by simp [hsB]; omega, show hdB k = false by simp [hdB]; omega]
    go_enter Try.func44, Try.ntmps44
    go_wp2_with (first | (go_at_call 84; first | (refine (i_within_yes _ _ _ _ ?_ ?_).mono ?_; omega; omega; rintro e w' ⟨rfl, rfl⟩) | (refine (i_within_no _ _ _ _ ?_).mono ?_; omega; rintro e w' ⟨rfl, rfl⟩)) | go_in)
    go_ret2
    exact ⟨rfl, rfl⟩
  · rw [show hsB k = false by simp [hsB]; omega, show hdB k = false by simp [hdB]; omega]
    go_enter Try.func44, Try.ntmps44
    go_wp2_with (first | (go_at_call 84; first | (refine (i_within_yes _ _ _ _ ?_ ?_).mono ?_; omega; omega; rintro e w' ⟨rfl, rfl⟩) | (refine (i_within_no _ _ _ _ ?_).mono ?_; omega; rintro e w' ⟨rfl, rfl⟩)) | go_in)
    go_ret2
    exact ⟨rfl, rfl⟩
  all_goals
    go_enter Try.func44, Try.ntmps44
    go_wp2_with (first | (go_at_call 84; first | (refine (i_within_yes _ _ _ _ ?_ ?_).mono ?_; omega; omega; rintro e w' ⟨rfl, rfl⟩) | (refine (i_within_no _ _ _ _ ?_).mono ?_; omega; rintro e w' ⟨rfl, rfl⟩)) | go_in)
    go_ret2
    exact ⟨rfl, rfl⟩
theorem s_HasStateAndData (k : Int) (w : World) : Calls Try.prog 45 #[.int .i64 k] w fun e w' => e = .returned (.tuple #[.bool (hsB k), .bool (hdB k)]) ∧ w = w' := by
  rcases kind6 k with h | h | rfl | rfl | rfl | rfl
  · rw [show hsB k = false by simp [hsB]; omega, show hdB k = false by simp [hdB]; omega]
    go_enter Try.func45, Try.ntmps45
    go_wp2_with (first | (go_at_call 79; first | (refine (s_l01In_yes _ _ _ _ ?_ ?_).mono ?_; omega; omega; rintro e w' ⟨rfl, rfl⟩) | (refine (s_l01In_no _ _ _ _ ?_).mono ?_; omega; rintro e w' ⟨rfl, rfl⟩)) | go_in)
    go_ret2
    exact ⟨rfl, rfl⟩
  · rw [show hsB k = false by simp [hsB]; omega, show hdB k = false by simp [hdB]; omega]
    go_enter Try.func45, Try.ntmps45
    go_wp2_with (first | (go_at_call 79; first | (refine (s_l01In_yes _ _ _ _ ?_ ?_).mono ?_; omega; omega; rintro e w' ⟨rfl, rfl⟩) | (refine (s_l01In_no _ _ _ _ ?_).mono ?_; omega; rintro e w' ⟨rfl, rfl⟩)) | go_in)
    go_ret2
    exact ⟨rfl, rfl⟩
  all_goals
    go_enter Try.func45, Try.ntmps45
    go_wp2_with (first | (go_at_call 79; first | (refine (s_l01In_yes _ _ _ _ ?_ ?_).mono ?_; omega; omega; rintro e w' ⟨rfl, rfl⟩) | (refine (s_l01In_no _ _ _ _ ?_).mono ?_; omega; rintro e w' ⟨rfl, rfl⟩)) | go_in)
    go_ret2
    exact ⟨rfl, rfl⟩
def knS (k : Int) : ByteArray := if k = 0 then ⟨#[110, 111, 114, 109, 97, 108]⟩ else if k = 1 then ⟨#[105, 110, 105, 116]⟩ else if k = 2 then ⟨#[100, 97, 116, 97]⟩ else if k = 3 then ⟨#[99, 111, 108, 100]⟩ else ⟨#[]⟩
theorem knS_no {k : Int} (h : k < 0 ∨ 3 < k) : knS k = ⟨#[]⟩ := by
  unfold knS
  rw [if_neg (by omega), if_neg (by omega), if_neg (by omega), if_neg (by omega)]
theorem i_KindName (k : Int) (w : World) : Calls Try.prog 51 #[.int .i64 k] w fun e w' => e = .returned (.string (knS k)) ∧ Below w.heap.size w w' := by
  rcases kind6 k with h | h | rfl | rfl | rfl | rfl
  · rw [knS_no (.inl h)]
    go_enter Try.func51, Try.ntmps51
    go_wp2_with (first | (go_at_call 84; first | (refine (i_within_yes _ _ _ _ ?_ ?_).mono ?_; omega; omega; rintro e w' ⟨rfl, rfl⟩) | (refine (i_within_no _ _ _ _ ?_).mono ?_; omega; rintro e w' ⟨rfl, rfl⟩)) | go_in)
    go_ret
    exact ⟨rfl, (Below.refl _ _).alloc (Nat.le_refl _) _⟩
  · rw [knS_no (.inr h)]
    go_enter Try.func51, Try.ntmps51
    go_wp2_with (first | (go_at_call 84; first | (refine (i_within_yes _ _ _ _ ?_ ?_).mono ?_; omega; omega; rintro e w' ⟨rfl, rfl⟩) | (refine (i_within_no _ _ _ _ ?_).mono ?_; omega; rintro e w' ⟨rfl, rfl⟩)) | go_in)
    go_ret
    exact ⟨rfl, (Below.refl _ _).alloc (Nat.le_refl _) _⟩
  all_goals
    go_enter Try.func51, Try.ntmps51
    go_wp2_with (first | (go_at_call 84; first | (refine (i_within_yes _ _ _ _ ?_ ?_).mono ?_; omega; omega; rintro e w' ⟨rfl, rfl⟩) | (refine (i_within_no _ _ _ _ ?_).mono ?_; omega; rintro e w' ⟨rfl, rfl⟩)) | go_in)
    go_ret
    exact ⟨rfl, (Below.refl _ _).alloc (Nat.le_refl _) _⟩
theorem s_KindName (k : Int) (w : World) : Calls Try.prog 52 #[.int .i64 k] w fun e w' => e = .returned (.string (knS k)) ∧ Below w.heap.size w w' := by
  rcases kind6 k with h | h | rfl | rfl | rfl | rfl
  · rw [knS_no (.inl h)]
    go_enter Try.func52, Try.ntmps52
    go_wp2_with (first | (go_at_call 79; first | (refine (s_l01In_yes _ _ _ _ ?_ ?_).mono ?_; omega; omega; rintro e w' ⟨rfl, rfl⟩) | (refine (s_l01In_no _ _ _ _ ?_).mono ?_; omega; rintro e w' ⟨rfl, rfl⟩)) | go_in)
    go_ret
    exact ⟨rfl, Below.refl _ _⟩
  · rw [knS_no (.inr h)]
    go_enter Try.func52, Try.ntmps52
    go_wp2_with (first | (go_at_call 79; first | (refine (s_l01In_yes _ _ _ _ ?_ ?_).mono ?_; omega; omega; rintro e w' ⟨rfl, rfl⟩) | (refine (s_l01In_no _ _ _ _ ?_).mono ?_; omega; rintro e w' ⟨rfl, rfl⟩)) | go_in)
    go_ret
    exact ⟨rfl, Below.refl _ _⟩
  all_goals
    go_enter Try.func52, Try.ntmps52
    go_wp2_with (first | (go_at_call 79; first | (refine (s_l01In_yes _ _ _ _ ?_ ?_).mono ?_; omega; omega; rintro e w' ⟨rfl, rfl⟩) | (refine (s_l01In_no _ _ _ _ ?_).mono ?_; omega; rintro e w' ⟨rfl, rfl⟩)) | go_in)
    go_ret
    exact ⟨rfl, (Below.refl _ _).alloc (Nat.le_refl _) _⟩
theorem kinds_ways (k d : Int) : (bodyC k d ≠ 0) ∨ (bodyC k d = 0 ∧ bodyV k d = 2 + d ∧ sealV k d = 5 + d ∧ 0 ≤ d ∧ d ≤ 32 ∧ hsB k = false ∧ hdB k = true) ∨ (bodyC k d = 0 ∧ bodyV k d = 10 + d ∧ sealV k d = 13 + d ∧ 0 ≤ d ∧ d ≤ 32 ∧ hsB k = true ∧ hdB k = true) ∨ (bodyC k d = 0 ∧ bodyV k d = 9 ∧ sealV k d = 12 ∧ d = 0 ∧ hsB k = true ∧ hdB k = false) := by
  by_cases hc : bodyC k d = 0
  · right
    have hk : 0 ≤ k ∧ k ≤ 3 := by
      by_cases hk : 0 ≤ k ∧ k ≤ 3
      · exact hk
      · rw [bodyC, if_pos hk] at hc; omega
    have hs : sizeOk k d = true := by
      rw [bodyC, if_neg (by omega)] at hc
      by_cases hs : sizeOk k d = true
      · exact hs
      · rw [if_neg hs] at hc; omega
    have h3 := (sizeOk_iff k d).1 hs
    have hv : bodyV k d = bodyZ k d := by unfold bodyV; rw [if_pos hc]
    have hq : sealV k d = bodyZ k d + 3 := by unfold sealV; rw [if_pos hc]
    rw [hv, hq]
    rcases h3 with ⟨rfl, h1, h2⟩ | ⟨rfl, h1, h2⟩ | ⟨h0, h2, h1⟩
    · left; refine ⟨hc, rfl, by show 2 + d + 3 = _; omega, h1, h2, rfl, rfl⟩
    · right; left; refine ⟨hc, rfl, by show 10 + d + 3 = _; omega, by omega, h2, rfl, rfl⟩
    · right; right
      have hb : bodyZ k d = 9 := by unfold bodyZ; rw [if_neg h0, if_neg h2]
      rw [hb]
      exact ⟨hc, rfl, rfl, h1, by simp [hsB]; omega, by simp [hdB]; omega⟩
  · exact .inl hc
set_option maxHeartbeats 2000000 in
theorem w_FnKinds (a0 : Option Addr) (len0 cap0 : Nat) (z0 : List Int) (w : World) (w0 : ArgBytes w a0 len0 cap0 z0) :
    Calls Try.prog 10 #[.slice a0 len0 cap0] w fun e w' => e = .returned (.bool true) ∧ Below w.heap.size w w' := by
  by_cases hbig : 4096 < len0
  · clear w0
    have hb : decide ((4096 : Int) < len0) = true := by simp; omega
    go_enter Try.func10, Try.ntmps10
    go_wp2_with (go_at_call 40; refine (h_big _ _ _ _).mono ?_; rintro e w' ⟨rfl, rfl⟩)
    go_ret
    exact ⟨rfl, Below.refl _ _⟩
  · have hI := w0.2.2 (by omega)
    have hb : decide ((4096 : Int) < len0) = false := by simp; omega
    clear w0
    go_enter Try.func10, Try.ntmps10
    go_wp2_with (go_at_call 40; refine (h_big _ _ _ _).mono ?_; rintro e w' ⟨rfl, rfl⟩)
    refine (s_DrawBodySize _ _ _ _ _ _ hI (Nat.le_refl _)).mono ?_
    rintro e w1 ⟨k, d, rfl, b1⟩
    have z1 := b1.size
    have hI1 := hI.below b1
    have HI := Lib.hid hI1; have HB := Lib.hid b1
    clear hI hI1 b1
    have W5 := kinds_ways k d
    generalize hC : bodyC k d = C at W5
    generalize hV : bodyV k d = V at W5
    generalize hX : sealV k d = X at W5
    generalize hS : hsB k = S at W5
    generalize hD : hdB k = D at W5
    have HC := Lib.hid hC; have HV := Lib.hid hV; have HX := Lib.hid hX; have HS := Lib.hid hS; have HD := Lib.hid hD
    clear hC hV hX hS hD
    go_wp2_with fail
    refine (i_BodySize k d _).mono ?_
    rintro e w' ⟨rfl, rfl⟩
    rw [HC.out, HV.out]
    go_wp2_with fail
    refine (s_BodySize k d _).mono ?_
    rintro e w' ⟨rfl, rfl⟩
    rw [HC.out, HV.out]
    go_wp2_with fail
    refine (i_HasStateAndData k _).mono ?_
    rintro e w' ⟨rfl, rfl⟩
    rw [HS.out, HD.out]
    go_wp2_with fail
    refine (s_HasStateAndData k _).mono ?_
    rintro e w' ⟨rfl, rfl⟩
    rw [HS.out, HD.out]
    go_wp2_with fail
    refine (i_SealSize k d _).mono ?_
    rintro e w' ⟨rfl, rfl⟩
    rw [HC.out, HX.out]
    go_wp2_with fail
    refine (s_SealSize k d _).mono ?_
    rintro e w' ⟨rfl, rfl⟩
    rw [HC.out, HX.out]
    go_wp2_with fail
    refine (s_DrawKindOfHead _ _ _ _ _ _ HI.out z1).mono ?_
    rintro e w2 ⟨hd, rfl, b2⟩
    have z2 := b2.size
    have HB2 := Lib.hid (HB.out.trans (b2.mono z1))
    clear HB HI b2
    go_wp2_with fail
    refine (i_KindOfHead hd _).mono ?_
    rintro e w' ⟨rfl, rfl⟩
    go_wp2_with fail
    refine (s_KindOfHead hd _).mono ?_
    rintro e w' ⟨rfl, rfl⟩
    clear HC HV HX HS HD
    go_wp2_with fail
    refine (i_KindName k _).mono ?_
    rintro e w3 ⟨rfl, b3⟩
    have HB3 := Lib.hid (HB2.out.trans (b3.mono HB2.out.size))
    clear b3 HB2
    go_wp2_with fail
    refine (s_KindName k _).mono ?_
    rintro e w4 ⟨rfl, b4⟩
    have HB4 := Lib.hid (HB3.out.trans (b4.mono HB3.out.size))
    clear b4 HB3
    rcases W5 with h | ⟨rfl, rfl, rfl, h1, h2, rfl, rfl⟩ | ⟨rfl, rfl, rfl, h1, h2, rfl, rfl⟩ | ⟨rfl, rfl, rfl, rfl, rfl, rfl⟩
    · have q0 : (C != 0) = true := by simpa using h
      clear h
      go_wp2
      go_ret
      exact ⟨rfl, HB4.out⟩
    all_goals
      go_wp2
      go_ret
      exact ⟨by first | rfl | (simp; omega), HB4.out⟩
end Go.Proofs.Ytecelofoffdjlaa

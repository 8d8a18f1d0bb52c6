/- The contracts of ImageOf. -/
import Derived.Test.YtjheanonklgbcaaImg2
namespace Go.Proofs.Ytjheanonklgbcaa
open Go.RowKit
set_option linter.unusedSimpArgs false
set_option linter.unusedVariables false
theorem byt_all' {xs : List Int} (h : bytesOk xs = true) : ∀ x ∈ xs, 0 ≤ x ∧ x ≤ 255 := fun x hx => by
  obtain ⟨i, hi, rfl⟩ := List.getElem_of_mem hx
  have := bytesOk_at h i hi
  rwa [List.getD_eq_getElem?_getD, List.getElem?_eq_getElem hi] at this
def imC (xs : List Int) : Int := if bytesOk xs then (if xs.length ≤ 868 then 0 else 3) else 2
def imR (xs : List Int) : List Int := if imC xs = 0 then imgL xs (cutN 28 xs.length) else []
theorem cut28_le (n : Nat) (h : n ≤ 868) : cutN 28 n ≤ 31 := by unfold cutN; split <;> omega
theorem imR_len (xs : List Int) : (imR xs).length ≤ 16777216 := by
  unfold imR
  split
  · rename_i h
    have h8 : xs.length ≤ 868 := by
      unfold imC at h
      split at h
      · split at h
        · assumption
        · simp at h
      · simp at h
    have := imgL_len xs (cutN 28 xs.length)
    have := cut28_le _ h8
    omega
  · simp
theorem s_l09Fits_yes (n : Int) (w : World) (h0 : 0 ≤ n) (h1 : n ≤ 868) : Calls Try.prog 67 #[.int .i64 n] w fun e w' => e = .returned (.bool true) ∧ w = w' := by
  go_enter Try.func67, Try.ntmps67
  go_wp2_with (go_at_call 60; first | (refine (s_l01In_yes _ _ _ _ ?_ ?_).mono ?_; omega; omega; rintro e w' ⟨rfl, rfl⟩) | (refine (s_l01In_no _ _ _ _ ?_).mono ?_; omega; rintro e w' ⟨rfl, rfl⟩))
  go_ret
  exact ⟨rfl, rfl⟩
theorem s_l09Fits_no (n : Int) (w : World) (h1 : 868 < n) : Calls Try.prog 67 #[.int .i64 n] w fun e w' => e = .returned (.bool false) ∧ w = w' := by
  go_enter Try.func67, Try.ntmps67
  go_wp2_with (go_at_call 60; first | (refine (s_l01In_yes _ _ _ _ ?_ ?_).mono ?_; omega; omega; rintro e w' ⟨rfl, rfl⟩) | (refine (s_l01In_no _ _ _ _ ?_).mono ?_; omega; rintro e w' ⟨rfl, rfl⟩))
  go_ret
  exact ⟨rfl, rfl⟩
theorem i_ImageOf (A : Option Addr) (n c : Nat) (xs : List Int) (B : Nat) (w : World) (h : IntsAt w B A n c xs) (hB : B ≤ w.heap.size) :
    Calls Try.prog 21 #[.slice A n c] w fun e w' => ∃ u, e = .returned (.tuple #[u, .int .i64 (imC xs)]) ∧ IOwn w' w.heap.size u (imR xs) ∧ Below w.heap.size w w' := by
  have C1 := i_IsBytes A n c xs B w h
  have hn := h.len
  cases hb : bytesOk xs
  · rw [hb] at C1
    have hC : imC xs = 2 := by simp [imC, hb]
    have hL : imR xs = [] := by simp [imR, hC]
    rw [hC, hL]
    clear h hC hL hn hb
    go_enter Try.func21, Try.ntmps21
    go_wp2_with (first | (go_at_call 63; refine C1.mono ?_; rintro e w1 ⟨rfl, rfl⟩))
    go_ret2
    exact ⟨_, rfl, IOwn.nil _ _, Below.refl _ _⟩
  · rw [hb] at C1
    have hl := bytesOk_len hb
    by_cases h8 : n ≤ 868
    · have hC : imC xs = 0 := by simp only [imC, hb, if_true]; rw [if_pos (by omega)]
      have hL : imR xs = imgL xs (cutN 28 n) := by simp only [imR, hC, if_true]; rw [hn]
      rw [hC, hL]
      have C2 := Lib.hid (i_imageOf A n c xs B w h hB (byt_all' hb) h8)
      have h8' : (n : Int) ≤ 868 := by omega
      clear h hC hL hn hb
      go_enter Try.func21, Try.ntmps21
      go_wp2_with (first | (go_at_call 63; refine C1.mono ?_; rintro e w1 ⟨rfl, rfl⟩) | (go_at_call 69; refine C2.out.mono ?_; rintro e w2 ⟨u, rfl, o, b⟩))
      go_ret2
      exact ⟨_, rfl, o, b⟩
    · have hC : imC xs = 3 := by simp only [imC, hb, if_true]; rw [if_neg (by omega)]
      have hL : imR xs = [] := by simp [imR, hC]
      rw [hC, hL]
      have h8' : (868 : Int) < (n : Int) := by omega
      clear h hC hL hn hb
      go_enter Try.func21, Try.ntmps21
      go_wp2_with (first | (go_at_call 63; refine C1.mono ?_; rintro e w1 ⟨rfl, rfl⟩))
      go_ret2
      exact ⟨_, rfl, IOwn.nil _ _, Below.refl _ _⟩
theorem s_ImageOf (A : Option Addr) (n c : Nat) (xs : List Int) (B : Nat) (w : World) (h : IntsAt w B A n c xs) (hB : B ≤ w.heap.size) :
    Calls Try.prog 20 #[.slice A n c] w fun e w' => ∃ u, e = .returned (.tuple #[u, .int .i64 (imC xs)]) ∧ IOwn w' w.heap.size u (imR xs) ∧ Below w.heap.size w w' := by
  have C1 := s_IsBytes A n c xs B w h
  have hn := h.len
  cases hb : bytesOk xs
  · rw [hb] at C1
    have hC : imC xs = 2 := by simp [imC, hb]
    have hL : imR xs = [] := by simp [imR, hC]
    rw [hC, hL]
    clear h hC hL hn hb
    go_enter Try.func20, Try.ntmps20
    go_wp2_with (first | (go_at_call 59; refine C1.mono ?_; rintro e w1 ⟨rfl, rfl⟩))
    go_ret2
    exact ⟨_, rfl, IOwn.nil _ _, Below.refl _ _⟩
  · rw [hb] at C1
    have hl := bytesOk_len hb
    by_cases h8 : n ≤ 868
    · have hC : imC xs = 0 := by simp only [imC, hb, if_true]; rw [if_pos (by omega)]
      have hL : imR xs = imgL xs (cutN 28 n) := by simp only [imR, hC, if_true]; rw [hn]
      rw [hC, hL]
      have C2 := Lib.hid (s_l09Image A n c xs B w h hB (byt_all' hb) h8)
      have h8' : (n : Int) ≤ 868 := by omega
      clear h hC hL hn hb
      go_enter Try.func20, Try.ntmps20
      go_wp2_with (first | (go_at_call 59; refine C1.mono ?_; rintro e w1 ⟨rfl, rfl⟩) | (go_at_call 67; refine (s_l09Fits_yes _ _ (by omega) h8').mono ?_; rintro e w1 ⟨rfl, rfl⟩) | (go_at_call 68; refine C2.out.mono ?_; rintro e w2 ⟨u, rfl, o, b⟩))
      go_ret2
      exact ⟨_, rfl, o, b⟩
    · have hC : imC xs = 3 := by simp only [imC, hb, if_true]; rw [if_neg (by omega)]
      have hL : imR xs = [] := by simp [imR, hC]
      rw [hC, hL]
      have h8' : (868 : Int) < (n : Int) := by omega
      clear h hC hL hn hb
      go_enter Try.func20, Try.ntmps20
      go_wp2_with (first | (go_at_call 59; refine C1.mono ?_; rintro e w1 ⟨rfl, rfl⟩) | (go_at_call 67; refine (s_l09Fits_no _ _ h8').mono ?_; rintro e w1 ⟨rfl, rfl⟩))
      go_ret2
      exact ⟨_, rfl, IOwn.nil _ _, Below.refl _ _⟩
end Go.Proofs.Ytjheanonklgbcaa

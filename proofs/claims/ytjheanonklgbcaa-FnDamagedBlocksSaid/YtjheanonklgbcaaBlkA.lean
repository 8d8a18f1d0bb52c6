/- Contracts of the slices of an image and of BlockAt. -/
import Derived.Test.YtjheanonklgbcaaColl
import Derived.Test.YtjheanonklgbcaaByt
namespace Go.Proofs.Ytjheanonklgbcaa
open Go.RowKit
set_option linter.unusedSimpArgs false
set_option linter.unusedVariables false
theorem cutL_len (N : Nat) (xs : List Int) (k : Nat) : (cutL N xs k).length = min N (xs.length - k * N) := by simp [cutL]
set_option maxHeartbeats 2000000 in
theorem i_slicesOf (A : Option Addr) (n c : Nat) (xs : List Int) (B : Nat) (w : World) (h : IntsAt w B A n c xs) (hB : B ≤ w.heap.size) :
    Calls Try.prog 64 #[.slice A n c] w fun e w' => ∃ g cp, e = .returned (.slice (some ⟨g, 0, none⟩) (cutN 33 n) cp) ∧ w.heap.size ≤ g ∧ g < w'.heap.size ∧ cutN 33 n ≤ cp ∧ cp ≤ maxLen ∧ PartsAt w' B g (cutN 33 n) (cutL 33 xs) ∧ Below w.heap.size w w' := by
  have hl := h.len
  have hsm := h.small
  have hle := h.le
  have hcm := h.cap
  by_cases hn : n = 0
  · subst hn
    have hx : xs = [] := List.eq_nil_of_length_eq_zero hl
    have R := heap_alloc_new w (.cells #[.slice none 0 0] 22)
    clear h hl
    go_enter Try.func64, Try.ntmps64
    go_wp2
    go_ret
    refine ⟨w.heap.size, 1, rfl, Nat.le_refl _, by simp, Nat.le_refl _, by unfold maxLen; omega, fun k hk => ⟨none, 0, 0, ?_, ?_⟩, (Below.refl _ _).alloc (Nat.le_refl _) _⟩
    · have hk' : k = 0 := by simp [cutN] at hk; omega
      subst hk'
      exact cell_of_row _ _ _ _ _ _ R
    · rw [show cutL 33 xs k = [] by simp [cutL, hx]]
      exact IntsAt.nil _ _ _ _ (by unfold maxLen; omega)
  · obtain ⟨ad, rfl, hab, -⟩ := h.at_ 0 (by omega)
    have hn0 : (0 : Int) < (n : Int) := by omega
    have hm : 1 ≤ (n + 33 - 1) / 33 := by omega
    have q0 := (Boxed.new w 22 (.slice (some ad) n c)).alloc (.cells #[.int .i64 ((33 : Nat) : Int)] 3)
    have q1 := Boxed.new (w.alloc (.cells #[.slice (some ad) n c] 22)) 3 (.int .i64 ((33 : Nat) : Int))
    simp only [World.size_alloc] at q1
    have HC := Lib.hid (l_Collect ad n c 33 w.heap.size (w.heap.size + 1) (by omega) (by omega) hle hcm hsm _ q0 q1)
    have hI := (h.alloc hB (.cells #[.slice (some ad) n c] 22)).alloc (by simp; omega) (.cells #[.int .i64 ((33 : Nat) : Int)] 3)
    have B0 := ((Below.refl w.heap.size w).alloc (Nat.le_refl _) (.cells #[.slice (some ad) n c] 22)).alloc (by simp) (.cells #[.int .i64 ((33 : Nat) : Int)] 3)
    have hz := B0.size
    have hN' : cutN 33 n = (n + 33 - 1) / 33 := by unfold cutN; exact if_neg hn
    have HN := Lib.hid hN'
    clear hN'
    clear q0 q1 h hl
    go_enter Try.func64, Try.ntmps64
    go_wp2_with (first
      | (go_at_call 95; refine (l_Chunk _ _ _ 33 _ (by omega) rfl _).mono ?_; rintro e w' ⟨rfl, rfl⟩)
      | (go_at_call 94; refine HC.out.mono ?_; rintro e w2 ⟨v, rfl, hr, hb⟩))
    go_ret
    have hz2 := hb.size
    obtain ⟨g, cp, e, p1, p2, p3, p4, p5⟩ := parts_of_row hr hm (hI.below' (by omega) hb)
    subst e
    rw [HN.out]
    exact ⟨g, cp, rfl, by omega, p2, p3, p4, p5, B0.trans (hb.mono hz)⟩
def baC (xs : List Int) (k : Int) : Int := if bytesOk xs then (if 0 ≤ k ∧ 33 * k < (xs.length : Int) then 0 else 4) else 2
def baL (xs : List Int) (k : Int) : List Int := if baC xs k = 0 then cutL 33 xs k.toNat else []
theorem baL_len (xs : List Int) (k : Int) : (baL xs k).length ≤ 16777216 := by
  unfold baL
  split
  · rw [cutL_len]; omega
  · simp
set_option maxHeartbeats 2000000 in
theorem i_BlockAt (A : Option Addr) (n c : Nat) (xs : List Int) (k : Int) (B : Nat) (w : World) (h : IntsAt w B A n c xs) (hB : B ≤ w.heap.size) :
    Calls Try.prog 16 #[.slice A n c, .int .i64 k] w fun e w' => ∃ u, e = .returned (.tuple #[u, .int .i64 (baC xs k)]) ∧ IOwn w' w.heap.size u (baL xs k) ∧ Below w.heap.size w w' := by
  have hl := h.len
  have hsm := h.small
  have C1 := i_IsBytes A n c xs B w h
  cases hb : bytesOk xs
  · rw [hb] at C1
    have hC : baC xs k = 2 := by simp [baC, hb]
    have hLL : baL xs k = [] := by simp [baL, hC]
    rw [hC, hLL]
    clear hC hLL hb h hl
    go_enter Try.func16, Try.ntmps16
    go_wp2_with (first | (go_at_call 63; refine C1.mono ?_; rintro e w1 ⟨rfl, rfl⟩))
    go_ret2
    exact ⟨_, rfl, IOwn.nil _ _, Below.refl _ _⟩
  · rw [hb] at C1
    have hn := bytesOk_len hb
    have C2 := Lib.hid (i_slicesOf A n c xs B w h hB)
    obtain ⟨M, hM⟩ : ∃ M, M = cutN 33 n := ⟨_, rfl⟩
    rw [← hM] at C2
    have hM1 : 1 ≤ M := by rw [hM]; unfold cutN; split <;> omega
    have hM2 : M ≤ 100 := by rw [hM]; unfold cutN; split <;> omega
    have HM := Lib.hid hM
    clear hM
    rcases (show k < 0 ∨ (M : Int) - 1 < k ∨ (0 ≤ k ∧ k ≤ (M : Int) - 1) by omega) with hk | hk | ⟨hk0, hk1⟩
    · have hC : baC xs k = 4 := by simp only [baC, hb, if_true]; rw [if_neg (by omega)]
      have hLL : baL xs k = [] := by simp [baL, hC]
      rw [hC, hLL]
      clear hC hLL hb h hl
      go_enter Try.func16, Try.ntmps16
      go_wp2_with (first | (go_at_call 63; refine C1.mono ?_; rintro e w1 ⟨rfl, rfl⟩) | (go_at_call 64; refine C2.out.mono ?_; rintro e w2 ⟨g, cp, rfl, -, -, -, -, -, b2⟩) | (go_at_call 65; first | (refine (i_within_yes _ _ _ _ ?_ ?_).mono ?_; omega; omega; rintro e w' ⟨rfl, rfl⟩) | (refine (i_within_no _ _ _ _ ?_).mono ?_; omega; rintro e w' ⟨rfl, rfl⟩)))
      go_ret2
      exact ⟨_, rfl, IOwn.nil _ _, b2⟩
    · have hC : baC xs k = 4 := by
        simp only [baC, hb, if_true]
        rw [if_neg]
        have := HM.out
        unfold cutN at this
        split at this <;> omega
      have hLL : baL xs k = [] := by simp [baL, hC]
      rw [hC, hLL]
      clear hC hLL hb h hl
      go_enter Try.func16, Try.ntmps16
      go_wp2_with (first | (go_at_call 63; refine C1.mono ?_; rintro e w1 ⟨rfl, rfl⟩) | (go_at_call 64; refine C2.out.mono ?_; rintro e w2 ⟨g, cp, rfl, -, -, -, -, -, b2⟩) | (go_at_call 65; first | (refine (i_within_yes _ _ _ _ ?_ ?_).mono ?_; omega; omega; rintro e w' ⟨rfl, rfl⟩) | (refine (i_within_no _ _ _ _ ?_).mono ?_; omega; rintro e w' ⟨rfl, rfl⟩)))
      go_ret2
      exact ⟨_, rfl, IOwn.nil _ _, b2⟩
    · obtain ⟨q, rfl⟩ := Int.eq_ofNat_of_zero_le hk0
      have hql := cutL_len 33 xs q
      by_cases h33 : 33 * q < n
      · have hC : baC xs (q : Int) = 0 := by simp only [baC, hb, if_true]; rw [if_pos (by omega)]
        have hLL : baL xs (q : Int) = cutL 33 xs q := by simp [baL, hC]
        rw [hC, hLL]
        have hq0 : 0 < (cutL 33 xs q).length := by rw [hql]; omega
        have hqM : q < M := by omega
        have hk1' : (q : Int) ≤ (M : Int) - 1 := by omega
        clear hC hLL hb h hl hql
        go_enter Try.func16, Try.ntmps16
        go_wp2_with (first | (go_at_call 63; refine C1.mono ?_; rintro e w1 ⟨rfl, rfl⟩) | (go_at_call 64; refine C2.out.mono ?_; rintro e w2 ⟨g, cp, rfl, -, hg, hmc, hcp, hpt, b2⟩; obtain ⟨A2, l2, c2, hc2, I2⟩ := hpt q hqM; have hl2 : 0 < l2 := (by have := I2.len; omega); clear hpt) | (go_at_call 65; first | (refine (i_within_yes _ _ _ _ ?_ ?_).mono ?_; omega; omega; rintro e w' ⟨rfl, rfl⟩) | (refine (i_within_no _ _ _ _ ?_).mono ?_; omega; rintro e w' ⟨rfl, rfl⟩)) | (go_at_call 66; refine (l_Clone A2 l2 c2 _ _ w2 I2 (by have := b2.size; omega)).mono ?_; rintro e w3 ⟨v3, rfl, o3, b3⟩))
        go_ret2
        exact ⟨_, rfl, o3.less b2.size, b2.trans (b3.mono b2.size)⟩
      · have hC : baC xs (q : Int) = 4 := by simp only [baC, hb, if_true]; rw [if_neg (by omega)]
        have hLL : baL xs (q : Int) = [] := by simp [baL, hC]
        rw [hC, hLL]
        have hq0 : (cutL 33 xs q).length = 0 := by rw [hql]; omega
        have hqM : q < M := by omega
        have hk1' : (q : Int) ≤ (M : Int) - 1 := by omega
        clear hC hLL hb h hl hql
        go_enter Try.func16, Try.ntmps16
        go_wp2_with (first | (go_at_call 63; refine C1.mono ?_; rintro e w1 ⟨rfl, rfl⟩) | (go_at_call 64; refine C2.out.mono ?_; rintro e w2 ⟨g, cp, rfl, -, hg, hmc, hcp, hpt, b2⟩; obtain ⟨A2, l2, c2, hc2, I2⟩ := hpt q hqM; have hl2 : (l2 : Int) ≤ 0 := (by have := I2.len; omega); clear hpt) | (go_at_call 65; first | (refine (i_within_yes _ _ _ _ ?_ ?_).mono ?_; omega; omega; rintro e w' ⟨rfl, rfl⟩) | (refine (i_within_no _ _ _ _ ?_).mono ?_; omega; rintro e w' ⟨rfl, rfl⟩)) | (go_at_call 66; refine (l_Clone A2 l2 c2 _ _ w2 I2 (by have := b2.size; omega)).mono ?_; rintro e w3 ⟨v3, rfl, o3, b3⟩))
        go_ret2
        exact ⟨_, rfl, IOwn.nil _ _, b2⟩
theorem cut_last {w : World} {B n c q : Nat} {A : Option Addr} {xs : List Int} (h : IntsAt w B A n c xs) (hq : q * 33 < n) (ht : n ≤ q * 33 + 33) :
    IntsAt w B (A.map (·.add (q * 33))) (n - q * 33) (c - q * 33) (cutL 33 xs q) := by
  have h1 := h.cut (q * 33) n (by omega) (Nat.le_refl _)
  have hle := h.le
  rw [if_neg (by omega)] at h1
  have e : (xs.drop (q * 33)).take (n - q * 33) = cutL 33 xs q := by
    unfold cutL
    rw [List.take_of_length_le (by rw [List.length_drop, h.len]; exact Nat.le_refl _), List.take_of_length_le (by rw [List.length_drop, h.len]; omega)]
  rwa [e] at h1
theorem cut_full {w : World} {B n c q : Nat} {A : Option Addr} {xs : List Int} (h : IntsAt w B A n c xs) (ht : q * 33 + 33 ≤ n) :
    IntsAt w B (A.map (·.add (q * 33))) (q * 33 + 33 - q * 33) (c - q * 33) (cutL 33 xs q) := by
  have h1 := h.cut (q * 33) (q * 33 + 33) (by omega) ht
  have hle := h.le
  rw [if_neg (by omega)] at h1
  rwa [show (xs.drop (q * 33)).take (q * 33 + 33 - q * 33) = cutL 33 xs q by unfold cutL; rw [Nat.add_sub_cancel_left]] at h1
theorem cut_none {w : World} {B n c q : Nat} {A A' : Option Addr} {c' : Nat} {xs : List Int} (h : IntsAt w B A n c xs) (hq : q * 33 = n) (hc : c' ≤ c) : IntsAt w B A' 0 c' (cutL 33 xs q) := by
  have e : cutL 33 xs q = [] := by
    unfold cutL
    rw [List.drop_of_length_le (by rw [h.len]; omega)]
    rfl
  rw [e]
  exact IntsAt.nil _ _ _ _ (by have := h.cap; omega)
theorem s_l09Slice (A : Option Addr) (n c : Nat) (xs : List Int) (q : Nat) (B : Nat) (w : World) (h : IntsAt w B A n c xs) (hq : 33 * q ≤ n) (hn : n ≤ 1024) :
    Calls Try.prog 62 #[.slice A n c, .int .i64 (q : Int)] w fun e w' => ∃ (A' : Option Addr) (l c' : Nat), e = .returned (.slice A' l c') ∧ IntsAt w' B A' l c' (cutL 33 xs q) ∧ w = w' := by
  have hle := h.le
  have hcm : c ≤ 9223372036854775807 := Nat.le_trans h.cap (by unfold maxLen; omega)
  have h2 : (n : Int) ≤ (c : Int) := by omega
  have h3 : (n : Int) ≤ 1024 := by omega
  rcases (show q * 33 = n ∨ (q * 33 < n ∧ n ≤ q * 33 + 33) ∨ q * 33 + 33 < n by omega) with ht | ⟨ht1, ht2⟩ | ht
  · have HI := Lib.hid (fun A' c' hc' => cut_none (A' := A') (c' := c') h ht hc')
    clear h
    subst ht
    have h1 : (q : Int) ≤ 32 := by omega
    go_enter Try.func62, Try.ntmps62
    go_wp2
    all_goals go_ret
    all_goals exact ⟨_, _, _, rfl, by simpa using HI.out _ _ (by omega), rfl⟩
  · have h1 : (q : Int) * 33 < (n : Int) := by omega
    have h4 : (n : Int) ≤ (q : Int) * 33 + 33 := by omega
    have HI := Lib.hid (cut_last h ht1 ht2)
    clear h hq
    go_enter Try.func62, Try.ntmps62
    go_wp2
    all_goals go_ret
    all_goals exact ⟨_, _, _, rfl, HI.out, rfl⟩
  · have h1 : (q : Int) * 33 + 33 < (n : Int) := by omega
    have HI := Lib.hid (cut_full h (by omega : q * 33 + 33 ≤ n))
    clear h hq
    go_enter Try.func62, Try.ntmps62
    go_wp2
    all_goals go_ret
    all_goals exact ⟨_, _, _, rfl, HI.out, rfl⟩
set_option maxHeartbeats 2000000 in
theorem s_BlockAt (A : Option Addr) (n c : Nat) (xs : List Int) (k : Int) (B : Nat) (w : World) (h : IntsAt w B A n c xs) (hB : B ≤ w.heap.size) :
    Calls Try.prog 14 #[.slice A n c, .int .i64 k] w fun e w' => ∃ u, e = .returned (.tuple #[u, .int .i64 (baC xs k)]) ∧ IOwn w' w.heap.size u (baL xs k) ∧ Below w.heap.size w w' := by
  have hl := h.len
  have hsm := h.small
  have C1 := s_IsBytes A n c xs B w h
  cases hb : bytesOk xs
  · rw [hb] at C1
    have hC : baC xs k = 2 := by simp [baC, hb]
    have hLL : baL xs k = [] := by simp [baL, hC]
    rw [hC, hLL]
    clear hC hLL hb h hl
    go_enter Try.func14, Try.ntmps14
    go_wp2_with (first | (go_at_call 59; refine C1.mono ?_; rintro e w1 ⟨rfl, rfl⟩))
    go_ret2
    exact ⟨_, rfl, IOwn.nil _ _, Below.refl _ _⟩
  · rw [hb] at C1
    have hn : n ≤ 1024 := by have := bytesOk_len hb; omega
    by_cases hk : 0 ≤ k ∧ 33 * k < (n : Int)
    · obtain ⟨hk0, hk1⟩ := hk
      obtain ⟨q, rfl⟩ := Int.eq_ofNat_of_zero_le hk0
      have hC : baC xs (q : Int) = 0 := by simp only [baC, hb, if_true]; rw [if_pos (by omega)]
      have hLL : baL xs (q : Int) = cutL 33 xs q := by simp [baL, hC]
      rw [hC, hLL]
      have C2 := Lib.hid (s_l09Slice A n c xs q B w h (by omega) hn)
      have hk2 : (q : Int) * 33 < (n : Int) := by omega
      have hk3 : (q : Int) ≤ (n : Int) := by omega
      clear hC hLL hb h hl
      go_enter Try.func14, Try.ntmps14
      go_wp2_with (first | (go_at_call 59; refine C1.mono ?_; rintro e w1 ⟨rfl, rfl⟩) | (go_at_call 60; first | (refine (s_l01In_yes _ _ _ _ ?_ ?_).mono ?_; omega; omega; rintro e w' ⟨rfl, rfl⟩) | (refine (s_l01In_no _ _ _ _ ?_).mono ?_; omega; rintro e w' ⟨rfl, rfl⟩)) | (go_at_call 62; refine C2.out.mono ?_; rintro e w2 ⟨A2, l2, c2, rfl, I2, rfl⟩) | (go_at_call 61; refine (s_l01Own A2 l2 c2 _ _ w I2 hB).mono ?_; rintro e w3 ⟨v3, rfl, o3, b3⟩))
      go_ret2
      exact ⟨_, rfl, o3, b3⟩
    · have hC : baC xs k = 4 := by simp only [baC, hb, if_true]; rw [if_neg (by omega)]
      have hLL : baL xs k = [] := by simp [baL, hC]
      rw [hC, hLL]
      rcases (show k < 0 ∨ (n : Int) < k ∨ (0 ≤ k ∧ k ≤ (n : Int) ∧ (n : Int) ≤ k * 33) by omega) with hk | hk | ⟨hk0, hk1, hk2⟩
      all_goals
        clear hC hLL hb h hl
        go_enter Try.func14, Try.ntmps14
        go_wp2_with (first | (go_at_call 59; refine C1.mono ?_; rintro e w1 ⟨rfl, rfl⟩) | (go_at_call 60; first | (refine (s_l01In_yes _ _ _ _ ?_ ?_).mono ?_; omega; omega; rintro e w' ⟨rfl, rfl⟩) | (refine (s_l01In_no _ _ _ _ ?_).mono ?_; omega; rintro e w' ⟨rfl, rfl⟩)))
        go_ret2
        exact ⟨_, rfl, IOwn.nil _ _, Below.refl _ _⟩
end Go.Proofs.Ytjheanonklgbcaa

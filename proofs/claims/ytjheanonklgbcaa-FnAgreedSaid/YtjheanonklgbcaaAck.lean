/- Contracts of AcknowledgeBy, of the program and of the reference. -/
import Derived.Test.YtjheanonklgbcaaVec2
namespace Go.Proofs.Ytjheanonklgbcaa
open Go.RowKit
set_option linter.unusedSimpArgs false
set_option linter.unusedVariables false
def ackOk (o k f s : Int) : Bool := vecB o && decide (0 ≤ k ∧ k ≤ 31) && vecB f && vecB s
def ackC (o k f s : Int) : Int := if ackOk o k f s = false then 2 else if o.toNat.testBit k.toNat = false then 5 else 0
def lessZ (o k : Int) : Int := (setN o.toNat k.toNat false : Nat)
def ackV (o k f s : Int) : Int := if ackC o k f s ≠ 0 then 0 else if f = o then 1 else if f = lessZ o k ∧ s = o then 1 else if f = lessZ o k ∧ s = lessZ o k then 0 else -1
theorem ack_bad {o k f s : Int} (h : ackOk o k f s = false) : ackC o k f s = 2 ∧ ackV o k f s = 0 := by simp [ackC, ackV, h]
theorem ack_no {o k f s : Int} (h : ackOk o k f s = true) (hb : o.toNat.testBit k.toNat = false) : ackC o k f s = 5 ∧ ackV o k f s = 0 := by simp [ackC, ackV, h, hb]
theorem ack_yes {o k f s : Int} (h : ackOk o k f s = true) (hb : o.toNat.testBit k.toNat = true) : ackC o k f s = 0 := by simp [ackC, h, hb]
theorem i_AcknowledgeBy (o k f s : Int) (w : World) :
    Calls Try.prog 37 #[.int .i64 o, .int .i64 k, .int .i64 f, .int .i64 s] w fun e w' => e = .returned (.tuple #[.int .i64 (ackV o k f s), .int .i64 (ackC o k f s)]) ∧ w = w' := by
  by_cases h1 : vecB o = true
  · by_cases h2 : 0 ≤ k ∧ k ≤ 31
    · by_cases h3 : vecB f = true
      · by_cases h4 : vecB s = true
        · have hok : ackOk o k f s = true := by simp [ackOk, h1, h2, h3, h4]
          obtain ⟨a1, a2⟩ := vecB_bd h1
          obtain ⟨a3, a4⟩ := vecB_bd h3
          obtain ⟨a5, a6⟩ := vecB_bd h4
          obtain ⟨b1, b2⟩ := h2
          obtain ⟨a, rfl⟩ := nat_of o a1
          obtain ⟨p, rfl⟩ := nat_of k b1
          have ha : a < 4294967296 := by omega
          have hp : p ≤ 31 := by omega
          have hh := hasB_small a p ha
          by_cases hb : a.testBit p = true
          · have ec : ackC (a : Int) p f s = 0 := ack_yes hok (by simpa using hb)
            have el : lessZ (a : Int) p = (setN a p false : Nat) := by simp [lessZ]
            rw [hb] at hh
            have hV : ackV (a : Int) p f s = if f = a then 1 else if f = (setN a p false : Nat) ∧ s = a then 1 else if f = (setN a p false : Nat) ∧ s = (setN a p false : Nat) then 0 else -1 := by
              unfold ackV; rw [ec, el]; simp
            have hlt := setN_lt a p false ha hp
            generalize hL : setN a p false = L at hV hlt
            have HL := Lib.hid hL
            rw [ec]
            clear hok h1 h3 h4 ec el hb hL
            by_cases q1 : f = a
            · have e1 : (f == (a : Int)) = true := by simpa using q1
              rw [hV, if_pos q1]
              clear hV q1
              go_enter Try.func37, Try.ntmps37
              go_wp2_with (first | (go_at_call 85; refine (i_has a p _ (by omega) (by omega)).mono ?_; rintro e w' ⟨rfl, rfl⟩) | (go_at_call 86; refine (i_without a p _ (by omega) (by omega)).mono ?_; rintro e w' ⟨rfl, rfl⟩; rw [HL.out]) | (go_at_call 65; first | (refine (i_within_yes _ _ _ _ ?_ ?_).mono ?_; omega; omega; rintro e w' ⟨rfl, rfl⟩) | (refine (i_within_no _ _ _ _ ?_).mono ?_; omega; rintro e w' ⟨rfl, rfl⟩)) | go_in)
              go_ret2
              exact ⟨rfl, rfl⟩
            · have e1 : (f == (a : Int)) = false := by simpa using q1
              rw [hV, if_neg q1]
              by_cases q2 : f = (L : Int)
              · have e2 : (f == (L : Int)) = true := by simpa using q2
                by_cases q3 : s = (a : Int)
                · have e3 : (s == (a : Int)) = true := by simpa using q3
                  rw [if_pos ⟨q2, q3⟩]
                  clear hV q1 q2 q3
                  go_enter Try.func37, Try.ntmps37
                  go_wp2_with (first | (go_at_call 85; refine (i_has a p _ (by omega) (by omega)).mono ?_; rintro e w' ⟨rfl, rfl⟩) | (go_at_call 86; refine (i_without a p _ (by omega) (by omega)).mono ?_; rintro e w' ⟨rfl, rfl⟩; rw [HL.out]) | (go_at_call 65; first | (refine (i_within_yes _ _ _ _ ?_ ?_).mono ?_; omega; omega; rintro e w' ⟨rfl, rfl⟩) | (refine (i_within_no _ _ _ _ ?_).mono ?_; omega; rintro e w' ⟨rfl, rfl⟩)) | go_in)
                  go_ret2
                  exact ⟨rfl, rfl⟩
                · have e3 : (s == (a : Int)) = false := by simpa using q3
                  rw [if_neg (fun h => q3 h.2)]
                  by_cases q4 : s = (L : Int)
                  · have e4 : (s == (L : Int)) = true := by simpa using q4
                    rw [if_pos ⟨q2, q4⟩]
                    clear hV q1 q2 q3 q4
                    go_enter Try.func37, Try.ntmps37
                    go_wp2_with (first | (go_at_call 85; refine (i_has a p _ (by omega) (by omega)).mono ?_; rintro e w' ⟨rfl, rfl⟩) | (go_at_call 86; refine (i_without a p _ (by omega) (by omega)).mono ?_; rintro e w' ⟨rfl, rfl⟩; rw [HL.out]) | (go_at_call 65; first | (refine (i_within_yes _ _ _ _ ?_ ?_).mono ?_; omega; omega; rintro e w' ⟨rfl, rfl⟩) | (refine (i_within_no _ _ _ _ ?_).mono ?_; omega; rintro e w' ⟨rfl, rfl⟩)) | go_in)
                    go_ret2
                    exact ⟨rfl, rfl⟩
                  · have e4 : (s == (L : Int)) = false := by simpa using q4
                    rw [if_neg (fun h => q4 h.2)]
                    clear hV q1 q2 q3 q4
                    go_enter Try.func37, Try.ntmps37
                    go_wp2_with (first | (go_at_call 85; refine (i_has a p _ (by omega) (by omega)).mono ?_; rintro e w' ⟨rfl, rfl⟩) | (go_at_call 86; refine (i_without a p _ (by omega) (by omega)).mono ?_; rintro e w' ⟨rfl, rfl⟩; rw [HL.out]) | (go_at_call 65; first | (refine (i_within_yes _ _ _ _ ?_ ?_).mono ?_; omega; omega; rintro e w' ⟨rfl, rfl⟩) | (refine (i_within_no _ _ _ _ ?_).mono ?_; omega; rintro e w' ⟨rfl, rfl⟩)) | go_in)
                    go_ret2
                    exact ⟨rfl, rfl⟩
              · have e2 : (f == (L : Int)) = false := by simpa using q2
                rw [if_neg (fun h => q2 h.1), if_neg (fun h => q2 h.1)]
                clear hV q1 q2
                go_enter Try.func37, Try.ntmps37
                go_wp2_with (first | (go_at_call 85; refine (i_has a p _ (by omega) (by omega)).mono ?_; rintro e w' ⟨rfl, rfl⟩) | (go_at_call 86; refine (i_without a p _ (by omega) (by omega)).mono ?_; rintro e w' ⟨rfl, rfl⟩; rw [HL.out]) | (go_at_call 65; first | (refine (i_within_yes _ _ _ _ ?_ ?_).mono ?_; omega; omega; rintro e w' ⟨rfl, rfl⟩) | (refine (i_within_no _ _ _ _ ?_).mono ?_; omega; rintro e w' ⟨rfl, rfl⟩)) | go_in)
                go_ret2
                exact ⟨rfl, rfl⟩
          · have hb' : a.testBit p = false := by simpa using hb
            obtain ⟨ec, ev⟩ := ack_no hok (show (a : Int).toNat.testBit (p : Int).toNat = false by simpa using hb')
            rw [hb'] at hh
            rw [ec, ev]
            clear hok h1 h3 h4 ec ev hb hb'
            go_enter Try.func37, Try.ntmps37
            go_wp2_with (first | (go_at_call 85; refine (i_has a p _ (by omega) (by omega)).mono ?_; rintro e w' ⟨rfl, rfl⟩) | (go_at_call 65; first | (refine (i_within_yes _ _ _ _ ?_ ?_).mono ?_; omega; omega; rintro e w' ⟨rfl, rfl⟩) | (refine (i_within_no _ _ _ _ ?_).mono ?_; omega; rintro e w' ⟨rfl, rfl⟩)) | go_in)
            go_ret2
            exact ⟨rfl, rfl⟩
        · have h4' : vecB s = false := by simpa using h4
          obtain ⟨ec, ev⟩ := ack_bad (show ackOk o k f s = false by simp [ackOk, h4'])
          obtain ⟨a1, a2⟩ := vecB_bd h1
          obtain ⟨a3, a4⟩ := vecB_bd h3
          have a5 := vecB_bad h4'
          obtain ⟨b1, b2⟩ := h2
          rw [ec, ev]
          clear h1 h3 h4 h4' ec ev
          go_enter Try.func37, Try.ntmps37
          go_wp2_with (first | (go_at_call 65; first | (refine (i_within_yes _ _ _ _ ?_ ?_).mono ?_; omega; omega; rintro e w' ⟨rfl, rfl⟩) | (refine (i_within_no _ _ _ _ ?_).mono ?_; omega; rintro e w' ⟨rfl, rfl⟩)) | go_in)
          go_ret2
          exact ⟨rfl, rfl⟩
      · have h3' : vecB f = false := by simpa using h3
        obtain ⟨ec, ev⟩ := ack_bad (show ackOk o k f s = false by simp [ackOk, h3'])
        obtain ⟨a1, a2⟩ := vecB_bd h1
        have a5 := vecB_bad h3'
        obtain ⟨b1, b2⟩ := h2
        rw [ec, ev]
        clear h1 h3 h3' ec ev
        go_enter Try.func37, Try.ntmps37
        go_wp2_with (first | (go_at_call 65; first | (refine (i_within_yes _ _ _ _ ?_ ?_).mono ?_; omega; omega; rintro e w' ⟨rfl, rfl⟩) | (refine (i_within_no _ _ _ _ ?_).mono ?_; omega; rintro e w' ⟨rfl, rfl⟩)) | go_in)
        go_ret2
        exact ⟨rfl, rfl⟩
    · obtain ⟨ec, ev⟩ := ack_bad (show ackOk o k f s = false by simp [ackOk, h2])
      obtain ⟨a1, a2⟩ := vecB_bd h1
      have a5 : k < 0 ∨ 31 < k := by omega
      rw [ec, ev]
      clear h1 h2 ec ev
      go_enter Try.func37, Try.ntmps37
      go_wp2_with (first | (go_at_call 65; first | (refine (i_within_yes _ _ _ _ ?_ ?_).mono ?_; omega; omega; rintro e w' ⟨rfl, rfl⟩) | (refine (i_within_no _ _ _ _ ?_).mono ?_; omega; rintro e w' ⟨rfl, rfl⟩)) | go_in)
      go_ret2
      exact ⟨rfl, rfl⟩
  · have h1' : vecB o = false := by simpa using h1
    obtain ⟨ec, ev⟩ := ack_bad (show ackOk o k f s = false by simp [ackOk, h1'])
    have a5 := vecB_bad h1'
    rw [ec, ev]
    clear h1 h1' ec ev
    go_enter Try.func37, Try.ntmps37
    go_wp2_with (first | (go_at_call 65; first | (refine (i_within_yes _ _ _ _ ?_ ?_).mono ?_; omega; omega; rintro e w' ⟨rfl, rfl⟩) | (refine (i_within_no _ _ _ _ ?_).mono ?_; omega; rintro e w' ⟨rfl, rfl⟩)) | go_in)
    go_ret2
    exact ⟨rfl, rfl⟩
set_option maxHeartbeats 800000 in
theorem s_AcknowledgeBy (o k f s : Int) (w : World) :
    Calls Try.prog 38 #[.int .i64 o, .int .i64 k, .int .i64 f, .int .i64 s] w fun e w' => e = .returned (.tuple #[.int .i64 (ackV o k f s), .int .i64 (ackC o k f s)]) ∧ Below w.heap.size w w' := by
  have Hv := Lib.hid (allIn3 o f s)
  by_cases hv : (vecB o && vecB f && vecB s) = true
  · obtain ⟨⟨h1, h3⟩, h4⟩ : (vecB o = true ∧ vecB f = true) ∧ vecB s = true := by simpa using hv
    by_cases h2 : 0 ≤ k ∧ k ≤ 31
    · have hok : ackOk o k f s = true := by simp [ackOk, h1, h2, h3, h4]
      obtain ⟨a1, a2⟩ := vecB_bd h1
      obtain ⟨b1, b2⟩ := h2
      obtain ⟨a, rfl⟩ := nat_of o a1
      obtain ⟨p, rfl⟩ := nat_of k b1
      have ha : a < 4294967296 := by omega
      have hp : p ≤ 31 := by omega
      have hh := hasB_small a p ha
      by_cases hb : a.testBit p = true
      · have ec : ackC (a : Int) p f s = 0 := ack_yes hok (by simpa using hb)
        have el : lessZ (a : Int) p = (setN a p false : Nat) := by simp [lessZ]
        rw [hb] at hh
        have hV : ackV (a : Int) p f s = if f = a then 1 else if f = (setN a p false : Nat) ∧ s = a then 1 else if f = (setN a p false : Nat) ∧ s = (setN a p false : Nat) then 0 else -1 := by
          unfold ackV; rw [ec, el]; simp
        have hlt := setN_lt a p false ha hp
        have hne : a ≠ setN a p false := by
          intro e
          have := testBit_setN a p p false
          rw [← e, hb] at this
          simp at this
        generalize hL : setN a p false = L at hV hlt hne
        have HL := Lib.hid hL
        rw [ec]
        clear hok h1 h3 h4 ec el hb hL
        by_cases q1 : f = a
        · have e1 : (f == (a : Int)) = true := by simpa using q1
          rw [hV, if_pos q1]
          clear hV q1 hne
          go_enter Try.func38, Try.ntmps38
          go_wp2_with (first | (go_at_call 80; refine (s_l05Vector _ 3 3 [(a : Int), f, s] _ _ (lit_ints w [(a : Int), f, s] 2 (by simp))).mono ?_; rintro e w' ⟨rfl, rfl⟩; rw [Hv.out]) | (go_at_call 87; refine (s_l05Has a p _ (by omega) (by omega)).mono ?_; rintro e w' ⟨rfl, rfl⟩) | (go_at_call 82; refine (s_l05Set a p false _ (by omega) (by omega)).mono ?_; rintro e w' ⟨rfl, rfl⟩; rw [HL.out]) | (go_at_call 60; first | (refine (s_l01In_yes _ _ _ _ ?_ ?_).mono ?_; omega; omega; rintro e w' ⟨rfl, rfl⟩) | (refine (s_l01In_no _ _ _ _ ?_).mono ?_; omega; rintro e w' ⟨rfl, rfl⟩)) | go_in)
          go_ret2
          exact ⟨rfl, (Below.refl _ _).alloc (Nat.le_refl _) _⟩
        · have e1 : (f == (a : Int)) = false := by simpa using q1
          rw [hV, if_neg q1]
          by_cases q2 : f = (L : Int)
          · have e2 : (f == (L : Int)) = true := by simpa using q2
            by_cases q3 : s = (a : Int)
            · have e3 : (s == (a : Int)) = true := by simpa using q3
              have e4 : (s == (L : Int)) = false := by simp; omega
              rw [if_pos ⟨q2, q3⟩]
              clear hV q1 q2 q3 hne
              go_enter Try.func38, Try.ntmps38
              go_wp2_with (first | (go_at_call 80; refine (s_l05Vector _ 3 3 [(a : Int), f, s] _ _ (lit_ints w [(a : Int), f, s] 2 (by simp))).mono ?_; rintro e w' ⟨rfl, rfl⟩; rw [Hv.out]) | (go_at_call 87; refine (s_l05Has a p _ (by omega) (by omega)).mono ?_; rintro e w' ⟨rfl, rfl⟩) | (go_at_call 82; refine (s_l05Set a p false _ (by omega) (by omega)).mono ?_; rintro e w' ⟨rfl, rfl⟩; rw [HL.out]) | (go_at_call 60; first | (refine (s_l01In_yes _ _ _ _ ?_ ?_).mono ?_; omega; omega; rintro e w' ⟨rfl, rfl⟩) | (refine (s_l01In_no _ _ _ _ ?_).mono ?_; omega; rintro e w' ⟨rfl, rfl⟩)) | go_in)
              go_ret2
              exact ⟨rfl, (Below.refl _ _).alloc (Nat.le_refl _) _⟩
            · have e3 : (s == (a : Int)) = false := by simpa using q3
              rw [if_neg (fun h => q3 h.2)]
              by_cases q4 : s = (L : Int)
              · have e4 : (s == (L : Int)) = true := by simpa using q4
                rw [if_pos ⟨q2, q4⟩]
                clear hV q1 q2 q3 q4 hne
                go_enter Try.func38, Try.ntmps38
                go_wp2_with (first | (go_at_call 80; refine (s_l05Vector _ 3 3 [(a : Int), f, s] _ _ (lit_ints w [(a : Int), f, s] 2 (by simp))).mono ?_; rintro e w' ⟨rfl, rfl⟩; rw [Hv.out]) | (go_at_call 87; refine (s_l05Has a p _ (by omega) (by omega)).mono ?_; rintro e w' ⟨rfl, rfl⟩) | (go_at_call 82; refine (s_l05Set a p false _ (by omega) (by omega)).mono ?_; rintro e w' ⟨rfl, rfl⟩; rw [HL.out]) | (go_at_call 60; first | (refine (s_l01In_yes _ _ _ _ ?_ ?_).mono ?_; omega; omega; rintro e w' ⟨rfl, rfl⟩) | (refine (s_l01In_no _ _ _ _ ?_).mono ?_; omega; rintro e w' ⟨rfl, rfl⟩)) | go_in)
                go_ret2
                exact ⟨rfl, (Below.refl _ _).alloc (Nat.le_refl _) _⟩
              · have e4 : (s == (L : Int)) = false := by simpa using q4
                rw [if_neg (fun h => q4 h.2)]
                clear hV q1 q2 q3 q4 hne
                go_enter Try.func38, Try.ntmps38
                go_wp2_with (first | (go_at_call 80; refine (s_l05Vector _ 3 3 [(a : Int), f, s] _ _ (lit_ints w [(a : Int), f, s] 2 (by simp))).mono ?_; rintro e w' ⟨rfl, rfl⟩; rw [Hv.out]) | (go_at_call 87; refine (s_l05Has a p _ (by omega) (by omega)).mono ?_; rintro e w' ⟨rfl, rfl⟩) | (go_at_call 82; refine (s_l05Set a p false _ (by omega) (by omega)).mono ?_; rintro e w' ⟨rfl, rfl⟩; rw [HL.out]) | (go_at_call 60; first | (refine (s_l01In_yes _ _ _ _ ?_ ?_).mono ?_; omega; omega; rintro e w' ⟨rfl, rfl⟩) | (refine (s_l01In_no _ _ _ _ ?_).mono ?_; omega; rintro e w' ⟨rfl, rfl⟩)) | go_in)
                go_ret2
                exact ⟨rfl, (Below.refl _ _).alloc (Nat.le_refl _) _⟩
          · have e2 : (f == (L : Int)) = false := by simpa using q2
            rw [if_neg (fun h => q2 h.1), if_neg (fun h => q2 h.1)]
            clear hV q1 q2 hne
            go_enter Try.func38, Try.ntmps38
            go_wp2_with (first | (go_at_call 80; refine (s_l05Vector _ 3 3 [(a : Int), f, s] _ _ (lit_ints w [(a : Int), f, s] 2 (by simp))).mono ?_; rintro e w' ⟨rfl, rfl⟩; rw [Hv.out]) | (go_at_call 87; refine (s_l05Has a p _ (by omega) (by omega)).mono ?_; rintro e w' ⟨rfl, rfl⟩) | (go_at_call 82; refine (s_l05Set a p false _ (by omega) (by omega)).mono ?_; rintro e w' ⟨rfl, rfl⟩; rw [HL.out]) | (go_at_call 60; first | (refine (s_l01In_yes _ _ _ _ ?_ ?_).mono ?_; omega; omega; rintro e w' ⟨rfl, rfl⟩) | (refine (s_l01In_no _ _ _ _ ?_).mono ?_; omega; rintro e w' ⟨rfl, rfl⟩)) | go_in)
            go_ret2
            exact ⟨rfl, (Below.refl _ _).alloc (Nat.le_refl _) _⟩
      · have hb' : a.testBit p = false := by simpa using hb
        obtain ⟨ec, ev⟩ := ack_no hok (show (a : Int).toNat.testBit (p : Int).toNat = false by simpa using hb')
        rw [hb'] at hh
        rw [ec, ev]
        clear hok h1 h3 h4 ec ev hb hb'
        go_enter Try.func38, Try.ntmps38
        go_wp2_with (first | (go_at_call 80; refine (s_l05Vector _ 3 3 [(a : Int), f, s] _ _ (lit_ints w [(a : Int), f, s] 2 (by simp))).mono ?_; rintro e w' ⟨rfl, rfl⟩; rw [Hv.out]) | (go_at_call 87; refine (s_l05Has a p _ (by omega) (by omega)).mono ?_; rintro e w' ⟨rfl, rfl⟩) | (go_at_call 60; first | (refine (s_l01In_yes _ _ _ _ ?_ ?_).mono ?_; omega; omega; rintro e w' ⟨rfl, rfl⟩) | (refine (s_l01In_no _ _ _ _ ?_).mono ?_; omega; rintro e w' ⟨rfl, rfl⟩)) | go_in)
        go_ret2
        exact ⟨rfl, (Below.refl _ _).alloc (Nat.le_refl _) _⟩
    · obtain ⟨ec, ev⟩ := ack_bad (show ackOk o k f s = false by simp [ackOk, h2])
      have a5 : k < 0 ∨ 31 < k := by omega
      rw [ec, ev]
      clear h1 h2 h3 h4 ec ev
      go_enter Try.func38, Try.ntmps38
      go_wp2_with (first | (go_at_call 80; refine (s_l05Vector _ 3 3 [o, f, s] _ _ (lit_ints w [o, f, s] 2 (by simp))).mono ?_; rintro e w' ⟨rfl, rfl⟩; rw [Hv.out]) | (go_at_call 60; first | (refine (s_l01In_yes _ _ _ _ ?_ ?_).mono ?_; omega; omega; rintro e w' ⟨rfl, rfl⟩) | (refine (s_l01In_no _ _ _ _ ?_).mono ?_; omega; rintro e w' ⟨rfl, rfl⟩)) | go_in)
      go_ret2
      exact ⟨rfl, (Below.refl _ _).alloc (Nat.le_refl _) _⟩
  · have hv' : (vecB o && vecB f && vecB s) = false := by simpa using hv
    obtain ⟨ec, ev⟩ := ack_bad (show ackOk o k f s = false by
      unfold ackOk
      cases h1 : vecB o
      · rfl
      · cases h3 : vecB f
        · simp
        · cases h4 : vecB s
          · simp
          · simp [h1, h3, h4] at hv')
    rw [ec, ev]
    clear hv ec ev
    go_enter Try.func38, Try.ntmps38
    go_wp2_with (first | (go_at_call 80; refine (s_l05Vector _ 3 3 [o, f, s] _ _ (lit_ints w [o, f, s] 2 (by simp))).mono ?_; rintro e w' ⟨rfl, rfl⟩; rw [Hv.out]) | (go_at_call 60; first | (refine (s_l01In_yes _ _ _ _ ?_ ?_).mono ?_; omega; omega; rintro e w' ⟨rfl, rfl⟩) | (refine (s_l01In_no _ _ _ _ ?_).mono ?_; omega; rintro e w' ⟨rfl, rfl⟩)) | go_in)
    go_ret2
    exact ⟨rfl, (Below.refl _ _).alloc (Nat.le_refl _) _⟩
end Go.Proofs.Ytjheanonklgbcaa

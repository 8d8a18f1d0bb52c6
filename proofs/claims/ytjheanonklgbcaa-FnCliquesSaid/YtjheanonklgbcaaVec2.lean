/- Contracts of SetMember, HasMember, VectorOf, IsMajority, AcknowledgeBy, of the program and of the reference; plain laws on vectors. -/
import Derived.Test.YtjheanonklgbcaaVec
namespace Go.Proofs.Ytjheanonklgbcaa
open Go.RowKit
set_option linter.unusedSimpArgs false
set_option linter.unusedVariables false
theorem nat_of (m : Int) (h0 : 0 ≤ m) : ∃ a : Nat, m = a := ⟨m.toNat, by omega⟩
theorem vecB_yes {m : Int} (h0 : 0 ≤ m) (h1 : m ≤ 4294967295) : vecB m = true := by simp [vecB, h0, h1]
theorem vecB_no {m : Int} (h : m < 0 ∨ 4294967295 < m) : vecB m = false := by simp [vecB]; omega
theorem vecB_bd {m : Int} (h : vecB m = true) : 0 ≤ m ∧ m ≤ 4294967295 := by simpa [vecB] using h
theorem vecB_bad {m : Int} (h : vecB m = false) : m < 0 ∨ 4294967295 < m := by simp [vecB] at h; omega
theorem allIn1 (m : Int) : allIn [m] 0 4294967295 = vecB m := by simp [allIn, vecB]
theorem allIn3 (a b c : Int) : allIn [a, b, c] 0 4294967295 = (vecB a && vecB b && vecB c) := by simp [allIn, vecB, Bool.and_assoc]
theorem hasB_small (m k : Nat) (hm : m < 4294967296) : hasB (m : Int) (k : Int) = m.testBit k := hasB_nat m k (by omega)
theorem i_without (m k : Nat) (w : World) (hm : m < 4294967296) (hk : k ≤ 31) :
    Calls Try.prog 86 #[.int .i64 m, .int .i64 k] w fun e w' => e = .returned (.int .i64 (setN m k false : Nat)) ∧ w = w' := by
  have h := andNot_set m k hm hk
  have H := Lib.hid h; clear h
  go_enter Try.func86, Try.ntmps86
  go_wp2
  go_ret
  exact ⟨by rw [← H.out]; rfl, rfl⟩
def setOk (m k : Int) : Bool := vecB m && decide (0 ≤ k ∧ k ≤ 31)
def setV (m k : Int) (b : Bool) : Int := if setOk m k = true then (setN m.toNat k.toNat b : Nat) else 0
def setC (m k : Int) : Int := if setOk m k = true then 0 else 2
theorem set_ways (m k : Int) (b : Bool) : ((m < 0 ∨ 4294967295 < m) ∧ setV m k b = 0 ∧ setC m k = 2) ∨ (0 ≤ m ∧ m ≤ 4294967295 ∧ (k < 0 ∨ 31 < k) ∧ setV m k b = 0 ∧ setC m k = 2) ∨
    (∃ a p : Nat, m = a ∧ k = p ∧ a < 4294967296 ∧ p ≤ 31 ∧ setV m k b = (setN a p b : Nat) ∧ setC m k = 0) := by
  by_cases hm : 0 ≤ m ∧ m ≤ 4294967295
  · by_cases hk : 0 ≤ k ∧ k ≤ 31
    · have ho : setOk m k = true := by simp [setOk, vecB, hm, hk]
      exact .inr (.inr ⟨m.toNat, k.toNat, by omega, by omega, by omega, by omega, by simp [setV, ho], by simp [setC, ho]⟩)
    · have ho : setOk m k = false := by simp [setOk, hk]
      exact .inr (.inl ⟨hm.1, hm.2, by omega, by simp [setV, ho], by simp [setC, ho]⟩)
  · have ho : setOk m k = false := by
      have : vecB m = false := vecB_no (by omega)
      simp [setOk, this]
    exact .inl ⟨by omega, by simp [setV, ho], by simp [setC, ho]⟩
theorem i_SetMember (m k : Int) (b : Bool) (w : World) :
    Calls Try.prog 39 #[.int .i64 m, .int .i64 k, .bool b] w fun e w' => e = .returned (.tuple #[.int .i64 (setV m k b), .int .i64 (setC m k)]) ∧ w = w' := by
  rcases set_ways m k b with ⟨h, ev, ec⟩ | ⟨h0, h1, h, ev, ec⟩ | ⟨a, p, rfl, rfl, ha, hp, ev, ec⟩
  · rw [ev, ec]; clear ev ec
    go_enter Try.func39, Try.ntmps39
    go_wp2_with (first | (go_at_call 65; first | (refine (i_within_yes _ _ _ _ ?_ ?_).mono ?_; omega; omega; rintro e w' ⟨rfl, rfl⟩) | (refine (i_within_no _ _ _ _ ?_).mono ?_; omega; rintro e w' ⟨rfl, rfl⟩)) | go_in)
    go_ret2
    exact ⟨rfl, rfl⟩
  · rw [ev, ec]; clear ev ec
    go_enter Try.func39, Try.ntmps39
    go_wp2_with (first | (go_at_call 65; first | (refine (i_within_yes _ _ _ _ ?_ ?_).mono ?_; omega; omega; rintro e w' ⟨rfl, rfl⟩) | (refine (i_within_no _ _ _ _ ?_).mono ?_; omega; rintro e w' ⟨rfl, rfl⟩)) | go_in)
    go_ret2
    exact ⟨rfl, rfl⟩
  · rw [ev, ec]; clear ev ec
    have h := or_set a p ha hp
    have H := Lib.hid h; clear h
    cases b
    · go_enter Try.func39, Try.ntmps39
      go_wp2_with (first | (go_at_call 86; refine (i_without a p _ (by omega) (by omega)).mono ?_; rintro e w' ⟨rfl, rfl⟩) | (go_at_call 65; first | (refine (i_within_yes _ _ _ _ ?_ ?_).mono ?_; omega; omega; rintro e w' ⟨rfl, rfl⟩) | (refine (i_within_no _ _ _ _ ?_).mono ?_; omega; rintro e w' ⟨rfl, rfl⟩)) | go_in)
      go_ret2
      exact ⟨rfl, rfl⟩
    · go_enter Try.func39, Try.ntmps39
      go_wp2_with (first | (go_at_call 65; first | (refine (i_within_yes _ _ _ _ ?_ ?_).mono ?_; omega; omega; rintro e w' ⟨rfl, rfl⟩) | (refine (i_within_no _ _ _ _ ?_).mono ?_; omega; rintro e w' ⟨rfl, rfl⟩)) | go_in)
      go_ret2
      exact ⟨by rw [← H.out]; rfl, rfl⟩
theorem s_SetMember (m k : Int) (b : Bool) (w : World) :
    Calls Try.prog 54 #[.int .i64 m, .int .i64 k, .bool b] w fun e w' => e = .returned (.tuple #[.int .i64 (setV m k b), .int .i64 (setC m k)]) ∧ Below w.heap.size w w' := by
  have Hv := Lib.hid (allIn1 m)
  rcases set_ways m k b with ⟨h, ev, ec⟩ | ⟨h0, h1, h, ev, ec⟩ | ⟨a, p, rfl, rfl, ha, hp, ev, ec⟩
  · rw [ev, ec]; clear ev ec
    have hv := vecB_no h
    go_enter Try.func54, Try.ntmps54
    go_wp2_with (first | (go_at_call 80; refine (s_l05Vector _ 1 1 [m] _ _ (lit_ints w [m] 2 (by simp))).mono ?_; rintro e w' ⟨rfl, rfl⟩; rw [Hv.out]) | (go_at_call 60; first | (refine (s_l01In_yes _ _ _ _ ?_ ?_).mono ?_; omega; omega; rintro e w' ⟨rfl, rfl⟩) | (refine (s_l01In_no _ _ _ _ ?_).mono ?_; omega; rintro e w' ⟨rfl, rfl⟩)) | go_in)
    go_ret2
    exact ⟨rfl, (Below.refl _ _).alloc (Nat.le_refl _) _⟩
  · rw [ev, ec]; clear ev ec
    have hv := vecB_yes h0 h1
    go_enter Try.func54, Try.ntmps54
    go_wp2_with (first | (go_at_call 80; refine (s_l05Vector _ 1 1 [m] _ _ (lit_ints w [m] 2 (by simp))).mono ?_; rintro e w' ⟨rfl, rfl⟩; rw [Hv.out]) | (go_at_call 60; first | (refine (s_l01In_yes _ _ _ _ ?_ ?_).mono ?_; omega; omega; rintro e w' ⟨rfl, rfl⟩) | (refine (s_l01In_no _ _ _ _ ?_).mono ?_; omega; rintro e w' ⟨rfl, rfl⟩)) | go_in)
    go_ret2
    exact ⟨rfl, (Below.refl _ _).alloc (Nat.le_refl _) _⟩
  · rw [ev, ec]; clear ev ec
    have hv := vecB_yes (m := (a : Int)) (by omega) (by omega)
    go_enter Try.func54, Try.ntmps54
    go_wp2_with (first | (go_at_call 80; refine (s_l05Vector _ 1 1 [(a : Int)] _ _ (lit_ints w [(a : Int)] 2 (by simp))).mono ?_; rintro e w' ⟨rfl, rfl⟩; rw [Hv.out]) | (go_at_call 82; refine (s_l05Set a p b _ (by omega) (by omega)).mono ?_; rintro e w' ⟨rfl, rfl⟩) | (go_at_call 60; first | (refine (s_l01In_yes _ _ _ _ ?_ ?_).mono ?_; omega; omega; rintro e w' ⟨rfl, rfl⟩) | (refine (s_l01In_no _ _ _ _ ?_).mono ?_; omega; rintro e w' ⟨rfl, rfl⟩)) | go_in)
    go_ret2
    exact ⟨rfl, (Below.refl _ _).alloc (Nat.le_refl _) _⟩
def memB (m k : Int) : Bool := setOk m k && m.toNat.testBit k.toNat
theorem i_HasMember (m k : Int) (w : World) :
    Calls Try.prog 55 #[.int .i64 m, .int .i64 k] w fun e w' => e = .returned (.bool (memB m k)) ∧ w = w' := by
  have hw := set_ways m k true
  rcases hw with ⟨h, _, ec⟩ | ⟨h0, h1, h, _, ec⟩ | ⟨a, p, rfl, rfl, ha, hp, _, ec⟩
  · have e1 : memB m k = false := by unfold memB; have : setOk m k = false := by (cases ho : setOk m k; rfl; simp [setC, ho] at ec)
                                     rw [this]; rfl
    rw [e1]; clear e1 ec
    go_enter Try.func55, Try.ntmps55
    go_wp2_with (first | (go_at_call 65; first | (refine (i_within_yes _ _ _ _ ?_ ?_).mono ?_; omega; omega; rintro e w' ⟨rfl, rfl⟩) | (refine (i_within_no _ _ _ _ ?_).mono ?_; omega; rintro e w' ⟨rfl, rfl⟩)) | go_in)
    go_ret
    exact ⟨rfl, rfl⟩
  · have e1 : memB m k = false := by unfold memB; have : setOk m k = false := by (cases ho : setOk m k; rfl; simp [setC, ho] at ec)
                                     rw [this]; rfl
    rw [e1]; clear e1 ec
    go_enter Try.func55, Try.ntmps55
    go_wp2_with (first | (go_at_call 65; first | (refine (i_within_yes _ _ _ _ ?_ ?_).mono ?_; omega; omega; rintro e w' ⟨rfl, rfl⟩) | (refine (i_within_no _ _ _ _ ?_).mono ?_; omega; rintro e w' ⟨rfl, rfl⟩)) | go_in)
    go_ret
    exact ⟨rfl, rfl⟩
  · have e1 : memB a p = a.testBit p := by
      have : setOk (a : Int) p = true := by (cases ho : setOk (a : Int) p; simp [setC, ho] at ec; rfl)
      unfold memB; rw [this]; simp
    have e2 := hasB_small a p ha
    rw [e1, ← e2]; clear e1 e2 ec
    go_enter Try.func55, Try.ntmps55
    go_wp2_with (first | (go_at_call 85; refine (i_has a p _ (by omega) (by omega)).mono ?_; rintro e w' ⟨rfl, rfl⟩) | (go_at_call 65; first | (refine (i_within_yes _ _ _ _ ?_ ?_).mono ?_; omega; omega; rintro e w' ⟨rfl, rfl⟩) | (refine (i_within_no _ _ _ _ ?_).mono ?_; omega; rintro e w' ⟨rfl, rfl⟩)) | go_in)
    go_ret
    exact ⟨rfl, rfl⟩
def majB (a r : Int) : Bool := decide (0 ≤ a ∧ a ≤ 256 ∧ 0 ≤ r ∧ r ≤ 256 ∧ r < a)
theorem i_IsMajority (a r : Int) (w : World) :
    Calls Try.prog 44 #[.int .i64 a, .int .i64 r] w fun e w' => e = .returned (.bool (majB a r)) ∧ w = w' := by
  by_cases h1 : 0 ≤ a ∧ a ≤ 256
  · obtain ⟨h1, h2⟩ := h1
    by_cases h3 : 0 ≤ r ∧ r ≤ 256
    · obtain ⟨h3, h4⟩ := h3
      rw [show majB a r = decide (r < a) by simp [majB, h1, h2, h3, h4]]
      go_enter Try.func44, Try.ntmps44
      go_wp2_with (first | (go_at_call 65; first | (refine (i_within_yes _ _ _ _ ?_ ?_).mono ?_; omega; omega; rintro e w' ⟨rfl, rfl⟩) | (refine (i_within_no _ _ _ _ ?_).mono ?_; omega; rintro e w' ⟨rfl, rfl⟩)) | go_in)
      go_ret
      exact ⟨rfl, rfl⟩
    · rw [show majB a r = false by simp [majB]; omega]
      have h3' : r < 0 ∨ 256 < r := by omega
      clear h3
      rcases h3' with h3 | h3
      all_goals
        go_enter Try.func44, Try.ntmps44
        go_wp2_with (first | (go_at_call 65; first | (refine (i_within_yes _ _ _ _ ?_ ?_).mono ?_; omega; omega; rintro e w' ⟨rfl, rfl⟩) | (refine (i_within_no _ _ _ _ ?_).mono ?_; omega; rintro e w' ⟨rfl, rfl⟩)) | go_in)
        go_ret
        exact ⟨rfl, rfl⟩
  · rw [show majB a r = false by simp [majB]; omega]
    have h3' : a < 0 ∨ 256 < a := by omega
    clear h1
    rcases h3' with h3 | h3
    all_goals
      go_enter Try.func44, Try.ntmps44
      go_wp2_with (first | (go_at_call 65; first | (refine (i_within_yes _ _ _ _ ?_ ?_).mono ?_; omega; omega; rintro e w' ⟨rfl, rfl⟩) | (refine (i_within_no _ _ _ _ ?_).mono ?_; omega; rintro e w' ⟨rfl, rfl⟩)) | go_in)
      go_ret
      exact ⟨rfl, rfl⟩
theorem s_IsMajority (a r : Int) (w : World) :
    Calls Try.prog 45 #[.int .i64 a, .int .i64 r] w fun e w' => e = .returned (.bool (majB a r)) ∧ w = w' := by
  by_cases h1 : 0 ≤ a ∧ a ≤ 256
  · obtain ⟨h1, h2⟩ := h1
    by_cases h3 : 0 ≤ r ∧ r ≤ 256
    · obtain ⟨h3, h4⟩ := h3
      rw [show majB a r = decide (r < a) by simp [majB, h1, h2, h3, h4]]
      go_enter Try.func45, Try.ntmps45
      go_wp2_with (first | (go_at_call 60; first | (refine (s_l01In_yes _ _ _ _ ?_ ?_).mono ?_; omega; omega; rintro e w' ⟨rfl, rfl⟩) | (refine (s_l01In_no _ _ _ _ ?_).mono ?_; omega; rintro e w' ⟨rfl, rfl⟩)) | go_in)
      go_ret
      exact ⟨rfl, rfl⟩
    · rw [show majB a r = false by simp [majB]; omega]
      have h3' : r < 0 ∨ 256 < r := by omega
      clear h3
      rcases h3' with h3 | h3
      all_goals
        go_enter Try.func45, Try.ntmps45
        go_wp2_with (first | (go_at_call 60; first | (refine (s_l01In_yes _ _ _ _ ?_ ?_).mono ?_; omega; omega; rintro e w' ⟨rfl, rfl⟩) | (refine (s_l01In_no _ _ _ _ ?_).mono ?_; omega; rintro e w' ⟨rfl, rfl⟩)) | go_in)
        go_ret
        exact ⟨rfl, rfl⟩
  · rw [show majB a r = false by simp [majB]; omega]
    have h3' : a < 0 ∨ 256 < a := by omega
    clear h1
    rcases h3' with h3 | h3
    all_goals
      go_enter Try.func45, Try.ntmps45
      go_wp2_with (first | (go_at_call 60; first | (refine (s_l01In_yes _ _ _ _ ?_ ?_).mono ?_; omega; omega; rintro e w' ⟨rfl, rfl⟩) | (refine (s_l01In_no _ _ _ _ ?_).mono ?_; omega; rintro e w' ⟨rfl, rfl⟩)) | go_in)
      go_ret
      exact ⟨rfl, rfl⟩
/-- The vector of some nodes, or none. -/
def vecStep (m : Option Nat) (x : Int) : Option Nat := match m with
  | none => none
  | some a => if 0 ≤ x ∧ x ≤ 31 ∧ a.testBit x.toNat = false then some (setN a x.toNat true) else none
def vecOf (xs : List Int) : Option Nat := xs.foldl vecStep (some 0)
theorem vecStep_none (xs : List Int) : xs.foldl vecStep none = none := by
  induction xs with
  | nil => rfl
  | cons x xs ih => simpa [List.foldl_cons, vecStep] using ih
theorem vecOf_take (xs : List Int) (k : Nat) (hk : k < xs.length) : vecOf (xs.take (k+1)) = vecStep (vecOf (xs.take k)) (xs.getD k 0) := by
  rw [take_succ_getD xs k hk]; unfold vecOf; rw [List.foldl_append]; rfl
theorem vecOf_dead (xs : List Int) (k : Nat) (h : vecOf (xs.take k) = none) : vecOf xs = none := by
  have e : xs = xs.take k ++ xs.drop k := (List.take_append_drop k xs).symm
  unfold vecOf at *
  rw [e, List.foldl_append, h, vecStep_none]
def vecV (xs : List Int) : Int := match vecOf xs with | none => 0 | some a => (a : Nat)
def vecC (xs : List Int) : Int := match vecOf xs with | none => 2 | some _ => 0
theorem vec_some {xs : List Int} {a : Nat} (h : vecOf xs = some a) : vecV xs = a ∧ vecC xs = 0 := by simp [vecV, vecC, h]
theorem vec_none {xs : List Int} (h : vecOf xs = none) : vecV xs = 0 ∧ vecC xs = 2 := by simp [vecV, vecC, h]
set_option maxHeartbeats 1000000 in
theorem i_VectorOf (A : Option Addr) (n c : Nat) (xs : List Int) (B : Nat) (w : World) (h : IntsAt w B A n c xs) :
    Calls Try.prog 56 #[.slice A n c] w fun e w' => e = .returned (.tuple #[.int .i64 (vecV xs), .int .i64 (vecC xs)]) ∧ w = w' := by
  obtain ⟨hl, _, hn, _, hc⟩ := h
  have Hl := Lib.hid hl; clear hl
  go_enter Try.func56, Try.ntmps56
  go_wp2
  go_loop [4, 9] (fun v i => ∃ k a : Nat, k ≤ n ∧ i = .int .i64 k ∧ v = .int .i64 (a : Nat) ∧ a < 4294967296 ∧ Hid (vecOf (xs.take k) = some a)) (fun _ i => n - (intOf i).toNat)
  case atStart => exact ⟨0, 0, Nat.zero_le _, rfl, rfl, by omega, rfl⟩
  case round =>
    obtain ⟨k, a, hk, rfl, rfl, ha, Hv⟩ := hrel
    by_cases hlt : k < n
    · obtain ⟨ad, rfl, _, hcell⟩ := hc (by omega)
      have hx := hcell k hlt
      have hkx : k < xs.length := by rw [Hl.out]; exact hlt
      have hst := vecOf_take xs k hkx
      rw [Hv.out] at hst
      clear hcell hc
      generalize hX : xs.getD k 0 = x at hx hst
      have HX := Lib.hid hX; clear hX
      by_cases h1 : 0 ≤ x ∧ x ≤ 31
      · obtain ⟨h1, h2⟩ := h1
        obtain ⟨p, rfl⟩ := nat_of x h1
        have hp : p ≤ 31 := by omega
        have hh := hasB_small a p ha
        by_cases hb : a.testBit p = true
        · rw [hb] at hh
          have hd : vecOf (xs.take (k+1)) = none := by rw [hst]; simp [vecStep, hb]
          obtain ⟨ev, ec⟩ := vec_none (vecOf_dead xs (k+1) hd)
          have Ev := Lib.hid ev; have Ec := Lib.hid ec
          clear hst hb hd ev ec
          go_wp2_with (first | (go_at_call 85; refine (i_has a p _ (by omega) (by omega)).mono ?_; rintro e w' ⟨rfl, rfl⟩) | (go_at_call 65; first | (refine (i_within_yes _ _ _ _ ?_ ?_).mono ?_; omega; omega; rintro e w' ⟨rfl, rfl⟩) | (refine (i_within_no _ _ _ _ ?_).mono ?_; omega; rintro e w' ⟨rfl, rfl⟩)) | go_in)
          go_ret2
          exact ⟨by rw [Ev.out, Ec.out]; rfl, rfl⟩
        · have hb' : a.testBit p = false := by simpa using hb
          rw [hb'] at hh
          have hd : vecOf (xs.take (k+1)) = some (setN a p true) := by
            rw [hst]
            simp only [vecStep, Int.toNat_natCast]
            rw [if_pos ⟨h1, h2, hb'⟩]
          have hlt2 := setN_lt a p true ha hp
          have Hd := Lib.hid hd
          have Hor := Lib.hid (or_set a p ha hp)
          clear hst hb hb' hd
          go_wp2_with (first | (go_at_call 85; refine (i_has a p _ (by omega) (by omega)).mono ?_; rintro e w' ⟨rfl, rfl⟩) | (go_at_call 65; first | (refine (i_within_yes _ _ _ _ ?_ ?_).mono ?_; omega; omega; rintro e w' ⟨rfl, rfl⟩) | (refine (i_within_no _ _ _ _ ?_).mono ?_; omega; rintro e w' ⟨rfl, rfl⟩)) | go_in)
          go_round
          case rel => exact ⟨k + 1, setN a p true, by omega, by go_num, by rw [Hor.out], hlt2, Hd.out⟩
          case measure => simp [intOf]; omega
      · have hd : vecOf (xs.take (k+1)) = none := by
          rw [hst]
          simp only [vecStep]
          rw [if_neg (fun h => h1 ⟨h.1, h.2.1⟩)]
        obtain ⟨ev, ec⟩ := vec_none (vecOf_dead xs (k+1) hd)
        have Ev := Lib.hid ev; have Ec := Lib.hid ec
        have h1' : x < 0 ∨ 31 < x := by omega
        clear hst hd ev ec h1
        rcases h1' with h1 | h1
        all_goals
          go_wp2_with (first | (go_at_call 65; first | (refine (i_within_yes _ _ _ _ ?_ ?_).mono ?_; omega; omega; rintro e w' ⟨rfl, rfl⟩) | (refine (i_within_no _ _ _ _ ?_).mono ?_; omega; rintro e w' ⟨rfl, rfl⟩)) | go_in)
          go_ret2
          exact ⟨by rw [Ev.out, Ec.out]; rfl, rfl⟩
    · have hkn : k = n := by omega
      have ht : xs.take k = xs := List.take_of_length_le (by rw [Hl.out, hkn]; exact Nat.le_refl _)
      obtain ⟨ev, ec⟩ := vec_some (show vecOf xs = some a by rw [← ht]; exact Hv.out)
      have Ev := Lib.hid ev; have Ec := Lib.hid ec
      clear ht ev ec hc hkn
      go_wp2
      go_ret2
      exact ⟨by rw [Ev.out, Ec.out]; rfl, rfl⟩
set_option maxHeartbeats 1000000 in
theorem s_VectorOf (A : Option Addr) (n c : Nat) (xs : List Int) (B : Nat) (w : World) (h : IntsAt w B A n c xs) :
    Calls Try.prog 58 #[.slice A n c] w fun e w' => e = .returned (.tuple #[.int .i64 (vecV xs), .int .i64 (vecC xs)]) ∧ w = w' := by
  obtain ⟨hl, _, hn, _, hc⟩ := h
  have Hl := Lib.hid hl; clear hl
  go_enter Try.func58, Try.ntmps58
  go_wp2
  go_loop [4, 5] (fun v i => ∃ k a : Nat, k ≤ n ∧ i = .int .i64 k ∧ v = .int .i64 (a : Nat) ∧ a < 4294967296 ∧ Hid (vecOf (xs.take k) = some a)) (fun _ i => n - (intOf i).toNat)
  case atStart => exact ⟨0, 0, Nat.zero_le _, rfl, rfl, by omega, rfl⟩
  case round =>
    obtain ⟨k, a, hk, rfl, rfl, ha, Hv⟩ := hrel
    by_cases hlt : k < n
    · obtain ⟨ad, rfl, _, hcell⟩ := hc (by omega)
      have hx := hcell k hlt
      have hkx : k < xs.length := by rw [Hl.out]; exact hlt
      have hst := vecOf_take xs k hkx
      rw [Hv.out] at hst
      clear hcell hc
      generalize hX : xs.getD k 0 = x at hx hst
      have HX := Lib.hid hX; clear hX
      by_cases h1 : 0 ≤ x ∧ x ≤ 31
      · obtain ⟨h1, h2⟩ := h1
        obtain ⟨p, rfl⟩ := nat_of x h1
        have hp : p ≤ 31 := by omega
        have hh := hasB_small a p ha
        by_cases hb : a.testBit p = true
        · rw [hb] at hh
          have hd : vecOf (xs.take (k+1)) = none := by rw [hst]; simp [vecStep, hb]
          obtain ⟨ev, ec⟩ := vec_none (vecOf_dead xs (k+1) hd)
          have Ev := Lib.hid ev; have Ec := Lib.hid ec
          clear hst hb hd ev ec
          go_wp2_with (first | (go_at_call 87; refine (s_l05Has a p _ (by omega) (by omega)).mono ?_; rintro e w' ⟨rfl, rfl⟩) | (go_at_call 60; first | (refine (s_l01In_yes _ _ _ _ ?_ ?_).mono ?_; omega; omega; rintro e w' ⟨rfl, rfl⟩) | (refine (s_l01In_no _ _ _ _ ?_).mono ?_; omega; rintro e w' ⟨rfl, rfl⟩)) | go_in)
          go_ret2
          exact ⟨by rw [Ev.out, Ec.out]; rfl, rfl⟩
        · have hb' : a.testBit p = false := by simpa using hb
          rw [hb'] at hh
          have hd : vecOf (xs.take (k+1)) = some (setN a p true) := by
            rw [hst]
            simp only [vecStep, Int.toNat_natCast]
            rw [if_pos ⟨h1, h2, hb'⟩]
          have hlt2 := setN_lt a p true ha hp
          have Hd := Lib.hid hd
          skip
          clear hst hb hb' hd
          go_wp2_with (first | (go_at_call 87; refine (s_l05Has a p _ (by omega) (by omega)).mono ?_; rintro e w' ⟨rfl, rfl⟩) | (go_at_call 82; refine (s_l05Set a p true _ (by omega) (by omega)).mono ?_; rintro e w' ⟨rfl, rfl⟩) | (go_at_call 60; first | (refine (s_l01In_yes _ _ _ _ ?_ ?_).mono ?_; omega; omega; rintro e w' ⟨rfl, rfl⟩) | (refine (s_l01In_no _ _ _ _ ?_).mono ?_; omega; rintro e w' ⟨rfl, rfl⟩)) | go_in)
          go_round
          case rel => exact ⟨k + 1, setN a p true, by omega, by go_num, rfl, hlt2, Hd.out⟩
          case measure => simp [intOf]; omega
      · have hd : vecOf (xs.take (k+1)) = none := by
          rw [hst]
          simp only [vecStep]
          rw [if_neg (fun h => h1 ⟨h.1, h.2.1⟩)]
        obtain ⟨ev, ec⟩ := vec_none (vecOf_dead xs (k+1) hd)
        have Ev := Lib.hid ev; have Ec := Lib.hid ec
        have h1' : x < 0 ∨ 31 < x := by omega
        clear hst hd ev ec h1
        rcases h1' with h1 | h1
        all_goals
          go_wp2_with (first | (go_at_call 60; first | (refine (s_l01In_yes _ _ _ _ ?_ ?_).mono ?_; omega; omega; rintro e w' ⟨rfl, rfl⟩) | (refine (s_l01In_no _ _ _ _ ?_).mono ?_; omega; rintro e w' ⟨rfl, rfl⟩)) | go_in)
          go_ret2
          exact ⟨by rw [Ev.out, Ec.out]; rfl, rfl⟩
    · have hkn : k = n := by omega
      have ht : xs.take k = xs := List.take_of_length_le (by rw [Hl.out, hkn]; exact Nat.le_refl _)
      obtain ⟨ev, ec⟩ := vec_some (show vecOf xs = some a by rw [← ht]; exact Hv.out)
      have Ev := Lib.hid ev; have Ec := Lib.hid ec
      clear ht ev ec hc hkn
      go_wp2
      go_ret2
      exact ⟨by rw [Ev.out, Ec.out]; rfl, rfl⟩
def hasL (xs : List Int) (x : Int) : Bool := decide (x ∈ xs)
theorem hasL_take (xs : List Int) (x : Int) (k : Nat) (h : k < xs.length) : hasL (xs.take (k+1)) x = (hasL (xs.take k) x || decide (xs.getD k 0 = x)) := by
  rw [take_succ_getD xs k h]; simp [hasL, eq_comm]
theorem hasL_at (xs : List Int) (x : Int) (k : Nat) (h : k < xs.length) (e : xs.getD k 0 = x) : hasL xs x = true := by
  simp only [hasL, decide_eq_true_eq]; rw [← e, getD_lt xs k h]; exact List.getElem_mem h
set_option maxHeartbeats 400000 in
theorem s_l01Has (A : Option Addr) (n c : Nat) (xs : List Int) (x : Int) (B : Nat) (w : World) (h : IntsAt w B A n c xs) :
    Calls Try.prog 91 #[.slice A n c, .int .i64 x] w fun e w' => e = .returned (.bool (hasL xs x)) ∧ w = w' := by
  obtain ⟨hl, _, hn, _, hc⟩ := h
  have Hl := Lib.hid hl; clear hl
  go_enter Try.func91, Try.ntmps91
  go_wp2
  go_loop [5] (fun i => ∃ k : Nat, k ≤ n ∧ i = .int .i64 k ∧ Hid (hasL (xs.take k) x = false)) (fun i => n - (intOf i).toNat)
  case atStart => exact ⟨0, Nat.zero_le _, rfl, (by simp [hasL] : hasL (xs.take 0) x = false)⟩
  case round =>
    obtain ⟨k, hk, rfl, Hk⟩ := hrel
    by_cases hlt : k < n
    · obtain ⟨ad, rfl, _, hcell⟩ := hc (by omega)
      have hx := hcell k hlt
      have hkx : k < xs.length := by rw [Hl.out]; exact hlt
      have hs := hasL_take xs x k hkx
      rw [Hk.out] at hs
      have hat := hasL_at xs x k hkx
      clear hcell hc
      generalize hX : xs.getD k 0 = y at hx hs hat
      by_cases hy : y = x
      · have hy' : (y == x) = true := by simpa using hy
        have e1 := hat hy
        have E1 := Lib.hid e1
        clear hy hs hat hX e1
        go_wp2
        go_ret
        exact ⟨by rw [E1.out]; rfl, rfl⟩
      · have hy' : (y == x) = false := by simpa using hy
        have e1 : hasL (xs.take (k+1)) x = false := by rw [hs]; simp [hy]
        have E1 := Lib.hid e1
        clear hy hs hat hX e1
        go_wp2
        go_round
        case rel => exact ⟨k + 1, by omega, by go_num, E1.out⟩
        case measure => simp [intOf]; omega
    · have hkn : k = n := by omega
      have ht : xs.take k = xs := List.take_of_length_le (by rw [Hl.out, hkn]; exact Nat.le_refl _)
      have e1 : hasL xs x = false := by rw [← ht]; exact Hk.out
      have E1 := Lib.hid e1
      clear ht e1 hc hkn
      go_wp2
      go_ret
      exact ⟨by rw [E1.out]; rfl, rfl⟩
set_option maxHeartbeats 400000 in
theorem h_hasInt (A : Option Addr) (n c : Nat) (xs : List Int) (x : Int) (B : Nat) (w : World) (h : IntsAt w B A n c xs) :
    Calls Try.prog 46 #[.slice A n c, .int .i64 x] w fun e w' => e = .returned (.bool (hasL xs x)) ∧ w = w' := by
  obtain ⟨hl, _, hn, _, hc⟩ := h
  have Hl := Lib.hid hl; clear hl
  go_enter Try.func46, Try.ntmps46
  go_wp2
  go_loop [5] (fun i => ∃ k : Nat, k ≤ n ∧ i = .int .i64 k ∧ Hid (hasL (xs.take k) x = false)) (fun i => n - (intOf i).toNat)
  case atStart => exact ⟨0, Nat.zero_le _, rfl, (by simp [hasL] : hasL (xs.take 0) x = false)⟩
  case round =>
    obtain ⟨k, hk, rfl, Hk⟩ := hrel
    by_cases hlt : k < n
    · obtain ⟨ad, rfl, _, hcell⟩ := hc (by omega)
      have hx := hcell k hlt
      have hkx : k < xs.length := by rw [Hl.out]; exact hlt
      have hs := hasL_take xs x k hkx
      rw [Hk.out] at hs
      have hat := hasL_at xs x k hkx
      clear hcell hc
      generalize hX : xs.getD k 0 = y at hx hs hat
      by_cases hy : y = x
      · have hy' : (y == x) = true := by simpa using hy
        have e1 := hat hy
        have E1 := Lib.hid e1
        clear hy hs hat hX e1
        go_wp2
        go_ret
        exact ⟨by rw [E1.out]; rfl, rfl⟩
      · have hy' : (y == x) = false := by simpa using hy
        have e1 : hasL (xs.take (k+1)) x = false := by rw [hs]; simp [hy]
        have E1 := Lib.hid e1
        clear hy hs hat hX e1
        go_wp2
        go_round
        case rel => exact ⟨k + 1, by omega, by go_num, E1.out⟩
        case measure => simp [intOf]; omega
    · have hkn : k = n := by omega
      have ht : xs.take k = xs := List.take_of_length_le (by rw [Hl.out, hkn]; exact Nat.le_refl _)
      have e1 : hasL xs x = false := by rw [← ht]; exact Hk.out
      have E1 := Lib.hid e1
      clear ht e1 hc hkn
      go_wp2
      go_ret
      exact ⟨by rw [E1.out]; rfl, rfl⟩
end Go.Proofs.Ytjheanonklgbcaa

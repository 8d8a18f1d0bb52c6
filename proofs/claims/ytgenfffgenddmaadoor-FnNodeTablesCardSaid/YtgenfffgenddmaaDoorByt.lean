/- Contracts of IsBytes, IsBits, l01All, l01Same, slices.Equal, l01Own, slices.Clone. -/
import Derived.Test.YtgenfffgenddmaaDoorHelp
import Derived.Test.YtgenfffgenddmaaDoorVec
import Derived.Test.YtgenfffgenddmaaDoorSc
namespace Go.Proofs.YtgenfffgenddmaaDoor
open Go.RowKit
set_option linter.unusedSimpArgs false
set_option linter.unusedVariables false
def bytesOk (xs : List Int) : Bool := decide (xs.length ≤ 1024) && allIn xs 0 255
def bitsOk (xs : List Int) : Bool := decide (xs.length ≤ 8192) && allIn xs 0 1
theorem bytesOk_len {xs : List Int} (h : bytesOk xs = true) : xs.length ≤ 1024 := by simp [bytesOk] at h; exact h.1
theorem bytesOk_at {xs : List Int} (h : bytesOk xs = true) (k : Nat) (hk : k < xs.length) : 0 ≤ xs.getD k 0 ∧ xs.getD k 0 ≤ 255 := by
  have h2 : allIn xs 0 255 = true := by simp only [bytesOk, Bool.and_eq_true] at h; exact h.2
  exact (allIn_iff xs 0 255).1 h2 k hk
theorem bitsOk_at {xs : List Int} (h : bitsOk xs = true) (k : Nat) (hk : k < xs.length) : 0 ≤ xs.getD k 0 ∧ xs.getD k 0 ≤ 1 := by
  have h2 : allIn xs 0 1 = true := by simp only [bitsOk, Bool.and_eq_true] at h; exact h.2
  exact (allIn_iff xs 0 1).1 h2 k hk
theorem bitsOk_len {xs : List Int} (h : bitsOk xs = true) : xs.length ≤ 8192 := by simp [bitsOk] at h; exact h.1
set_option maxHeartbeats 400000 in
theorem s_l01All (A : Option Addr) (n c : Nat) (xs : List Int) (most hi : Int) (B : Nat) (w : World) (h : IntsAt w B A n c xs) (hmost : (n : Int) ≤ most) :
    Calls Tryd.prog 72 #[.slice A n c, .int .i64 most, .int .i64 hi] w fun e w' => e = .returned (.bool (allIn xs 0 hi)) ∧ w = w' := by
  obtain ⟨hl, _, hn, _, hc⟩ := h
  have Hl := Lib.hid hl; clear hl
  go_enter Tryd.func72, Tryd.ntmps72
  go_wp2
  go_loop [7] (fun i => ∃ k : Nat, k ≤ n ∧ i = .int .i64 k ∧ Hid (allIn (xs.take k) 0 hi = true)) (fun i => n - (intOf i).toNat)
  case atStart => exact ⟨0, Nat.zero_le _, rfl, rfl⟩
  case round =>
    obtain ⟨k, hk, rfl, Hall⟩ := hrel
    by_cases hlt : k < n
    · obtain ⟨ad, rfl, _, hcell⟩ := hc (by omega)
      have hx := hcell k hlt
      have hkx : k < xs.length := by rw [Hl.out]; exact hlt
      clear hcell hc
      generalize hX : xs.getD k 0 = x at hx
      have HX := Lib.hid hX; clear hX
      by_cases h1 : 0 ≤ x
      · by_cases h2 : x ≤ hi
        · go_wp2_with (first | (go_at_call 53; first | (refine (s_l01In_yes _ _ _ _ ?_ ?_).mono ?_; omega; omega; rintro e w' ⟨rfl, rfl⟩) | (refine (s_l01In_no _ _ _ _ ?_).mono ?_; omega; rintro e w' ⟨rfl, rfl⟩)) | go_in)
          go_round
          case rel => exact ⟨k + 1, by omega, by go_num, allIn_step xs _ _ k hkx Hall.out (by rw [HX.out]; exact h1) (by rw [HX.out]; exact h2)⟩
          case measure => simp [intOf]; omega
        · go_wp2_with (first | (go_at_call 53; first | (refine (s_l01In_yes _ _ _ _ ?_ ?_).mono ?_; omega; omega; rintro e w' ⟨rfl, rfl⟩) | (refine (s_l01In_no _ _ _ _ ?_).mono ?_; omega; rintro e w' ⟨rfl, rfl⟩)) | go_in)
          go_ret
          exact ⟨by rw [allIn_bad xs _ _ k hkx (by rw [HX.out]; omega)]; rfl, rfl⟩
      · go_wp2_with (first | (go_at_call 53; first | (refine (s_l01In_yes _ _ _ _ ?_ ?_).mono ?_; omega; omega; rintro e w' ⟨rfl, rfl⟩) | (refine (s_l01In_no _ _ _ _ ?_).mono ?_; omega; rintro e w' ⟨rfl, rfl⟩)) | go_in)
        go_ret
        exact ⟨by rw [allIn_bad xs _ _ k hkx (by rw [HX.out]; omega)]; rfl, rfl⟩
    · have hkn : k = n := by omega
      have Hkn := Lib.hid hkn; clear hkn hc
      go_wp2
      go_ret
      exact ⟨by rw [allIn_all xs _ _ (by rw [Hl.out, ← Hkn.out]; exact Hall.out)]; rfl, rfl⟩
theorem s_l01All_no (A : Option Addr) (n c : Nat) (most hi : Int) (w : World) (hn : n ≤ 16777216) (hmost : most < (n : Int)) :
    Calls Tryd.prog 72 #[.slice A n c, .int .i64 most, .int .i64 hi] w fun e w' => e = .returned (.bool false) ∧ w = w' := by
  go_enter Tryd.func72, Tryd.ntmps72
  go_wp2
  go_ret
  exact ⟨rfl, rfl⟩
theorem s_IsBytes (A : Option Addr) (n c : Nat) (xs : List Int) (B : Nat) (w : World) (h : IntsAt w B A n c xs) :
    Calls Tryd.prog 46 #[.slice A n c] w fun e w' => e = .returned (.bool (bytesOk xs)) ∧ w = w' := by
  have hn := h.small
  by_cases hs : n ≤ 1024
  · rw [show bytesOk xs = allIn xs 0 255 by simp [bytesOk, h.len, hs]]
    go_enter Tryd.func46, Tryd.ntmps46
    go_wp2_with (go_at_call 72; refine (s_l01All _ _ _ xs _ _ _ _ h (by omega)).mono ?_; rintro e w' ⟨rfl, rfl⟩)
    go_ret
    exact ⟨rfl, rfl⟩
  · rw [show bytesOk xs = false by simp [bytesOk, h.len, hs]]
    go_enter Tryd.func46, Tryd.ntmps46
    go_wp2_with (go_at_call 72; refine (s_l01All_no _ _ _ _ _ _ hn (by omega)).mono ?_; rintro e w' ⟨rfl, rfl⟩)
    go_ret
    exact ⟨rfl, rfl⟩
theorem i_IsBytes (A : Option Addr) (n c : Nat) (xs : List Int) (B : Nat) (w : World) (h : IntsAt w B A n c xs) :
    Calls Tryd.prog 48 #[.slice A n c] w fun e w' => e = .returned (.bool (bytesOk xs)) ∧ w = w' := by
  have hn := h.small
  by_cases hs : n ≤ 1024
  · rw [show bytesOk xs = allIn xs 0 255 by simp [bytesOk, h.len, hs]]
    go_enter Tryd.func48, Tryd.ntmps48
    go_wp2_with (go_at_call 74; refine (i_allWithin _ _ _ xs _ _ _ _ h).mono ?_; rintro e w' ⟨rfl, rfl⟩)
    go_ret
    exact ⟨rfl, rfl⟩
  · rw [show bytesOk xs = false by simp [bytesOk, h.len, hs]]
    go_enter Tryd.func48, Tryd.ntmps48
    go_wp2
    go_ret
    exact ⟨rfl, rfl⟩
set_option maxHeartbeats 400000 in
theorem s_l01Same (A A' : Option Addr) (n c n' c' : Nat) (xs ys : List Int) (B B' : Nat) (w : World) (h : IntsAt w B A n c xs) (h' : IntsAt w B' A' n' c' ys) :
    Calls Tryd.prog 73 #[.slice A n c, .slice A' n' c'] w fun e w' => e = .returned (.bool (eqL xs ys)) ∧ ∃ m, w' = w.drewN m := by
  obtain ⟨hl, _, hn, _, hc⟩ := h
  obtain ⟨hl', _, hn', _, hc'⟩ := h'
  by_cases hne : n = n'
  · subst hne
    have Hl := Lib.hid hl; have Hl' := Lib.hid hl'; clear hl hl'
    go_enter Tryd.func73, Tryd.ntmps73
    go_wp2
    go_loopw [5] (fun i wr => ∃ k : Nat, k ≤ n ∧ i = .int .i64 k ∧ Hid (xs.take k = ys.take k) ∧ ∃ m, wr = w.drewN m) (fun i _ => n - (intOf i).toNat)
    case atStart => exact ⟨0, Nat.zero_le _, rfl, rfl, 0, rfl⟩
    case round =>
      obtain ⟨k, hk, rfl, Htk, m, rfl⟩ := hrel
      by_cases hlt : k < n
      · obtain ⟨ad, rfl, _, hcell⟩ := hc (by omega)
        obtain ⟨ad', rfl, _, hcell'⟩ := hc' (by omega)
        have hx := hcell k hlt
        have hy := hcell' k hlt
        clear hcell hcell' hc hc'
        have hkx : k < xs.length := by rw [Hl.out]; exact hlt
        have hky : k < ys.length := by rw [Hl'.out]; exact hlt
        have ex : xs.getD k 0 = xs[k] := by simp [List.getD_eq_getElem?_getD, List.getElem?_eq_getElem hkx]
        have ey : ys.getD k 0 = ys[k] := by simp [List.getD_eq_getElem?_getD, List.getElem?_eq_getElem hky]
        have Ex := Lib.hid ex; have Ey := Lib.hid ey; clear ex ey
        have b0 : (0 : Int) ≤ (k : Int) := by omega
        have b1 : (k : Int) < (n : Int) := by omega
        by_cases hxy : xs.getD k 0 = ys.getD k 0
        · have hxy3 : (xs[k] != ys[k]) = false := by rw [← Ex.out, ← Ey.out]; simpa using hxy
          have Hxy := Lib.hid hxy; clear hxy
          go_wp2
          go_quiet (fail)
          go_wp2
          go_roundw
          case rel => exact ⟨k + 1, by omega, by go_num, (by show _ = _; rw [take_succ_getD xs k hkx, take_succ_getD ys k hky, Htk.out, Hxy.out]), _, by first | rfl | exact World.drewN_drewN _ _ _⟩
          case measure => simp [intOf]; omega
        · have hxy3 : (xs[k] != ys[k]) = true := by rw [← Ex.out, ← Ey.out]; simpa using hxy
          have Hxy := Lib.hid hxy; clear hxy
          go_wp2
          go_quiet (fail)
          go_wp2
          go_ret
          exact ⟨by rw [eqL_at k Hxy.out]; rfl, _, by first | rfl | exact World.drewN_drewN _ _ _⟩
      · have hkn : k = n := by omega
        have Hkn := Lib.hid hkn; clear hkn
        go_wp2
        go_ret
        exact ⟨by rw [eqL_all (by rw [Hl.out, Hl'.out]) (by rw [Hl.out, ← Hkn.out]; exact Htk.out)]; rfl, _, rfl⟩
  · have hb : ((n : Int) != n') = true := by simp; omega
    have Hl := Lib.hid hl; have Hl' := Lib.hid hl'; have Hne := Lib.hid hne; clear hl hl' hc hc' hne
    go_enter Tryd.func73, Tryd.ntmps73
    go_wp2
    go_ret
    exact ⟨by rw [eqL_len (by rw [Hl.out, Hl'.out]; exact Hne.out)]; rfl, 0, rfl⟩
set_option maxHeartbeats 400000 in
theorem l_Equal (A A' : Option Addr) (n c n' c' : Nat) (xs ys : List Int) (B B' : Nat) (w : World) (h : IntsAt w B A n c xs) (h' : IntsAt w B' A' n' c' ys) :
    Calls Tryd.prog 90 #[.slice A n c, .slice A' n' c'] w fun e w' => e = .returned (.bool (eqL xs ys)) ∧ ∃ m, w' = w.drewN m := by
  obtain ⟨hl, _, hn, _, hc⟩ := h
  obtain ⟨hl', _, hn', _, hc'⟩ := h'
  by_cases hne : n = n'
  · subst hne
    have Hl := Lib.hid hl; have Hl' := Lib.hid hl'; clear hl hl'
    go_enter Tryd.func90, Tryd.ntmps90
    go_wp2
    go_loopw [13] (fun i wr => ∃ k : Nat, k ≤ n ∧ i = .int .i64 k ∧ Hid (xs.take k = ys.take k) ∧ ∃ m, wr = w.drewN m) (fun i _ => n - (intOf i).toNat)
    case atStart => exact ⟨0, Nat.zero_le _, rfl, rfl, 0, rfl⟩
    case round =>
      obtain ⟨k, hk, rfl, Htk, m, rfl⟩ := hrel
      by_cases hlt : k < n
      · obtain ⟨ad, rfl, _, hcell⟩ := hc (by omega)
        obtain ⟨ad', rfl, _, hcell'⟩ := hc' (by omega)
        have hx := hcell k hlt
        have hy := hcell' k hlt
        clear hcell hcell' hc hc'
        have hkx : k < xs.length := by rw [Hl.out]; exact hlt
        have hky : k < ys.length := by rw [Hl'.out]; exact hlt
        have ex : xs.getD k 0 = xs[k] := by simp [List.getD_eq_getElem?_getD, List.getElem?_eq_getElem hkx]
        have ey : ys.getD k 0 = ys[k] := by simp [List.getD_eq_getElem?_getD, List.getElem?_eq_getElem hky]
        have Ex := Lib.hid ex; have Ey := Lib.hid ey; clear ex ey
        have b0 : (0 : Int) ≤ (k : Int) := by omega
        have b1 : (k : Int) < (n : Int) := by omega
        by_cases hxy : xs.getD k 0 = ys.getD k 0
        · have hxy3 : (xs[k] != ys[k]) = false := by rw [← Ex.out, ← Ey.out]; simpa using hxy
          have Hxy := Lib.hid hxy; clear hxy
          go_wp2
          go_quiet (fail)
          go_wp2
          go_roundw
          case rel => exact ⟨k + 1, by omega, by go_num, (by show _ = _; rw [take_succ_getD xs k hkx, take_succ_getD ys k hky, Htk.out, Hxy.out]), _, by first | rfl | exact World.drewN_drewN _ _ _⟩
          case measure => simp [intOf]; omega
        · have hxy3 : (xs[k] != ys[k]) = true := by rw [← Ex.out, ← Ey.out]; simpa using hxy
          have Hxy := Lib.hid hxy; clear hxy
          go_wp2
          go_quiet (fail)
          go_wp2
          go_ret
          exact ⟨by rw [eqL_at k Hxy.out]; rfl, _, by first | rfl | exact World.drewN_drewN _ _ _⟩
      · have hkn : k = n := by omega
        have Hkn := Lib.hid hkn; clear hkn
        go_wp2
        go_ret
        exact ⟨by rw [eqL_all (by rw [Hl.out, Hl'.out]) (by rw [Hl.out, ← Hkn.out]; exact Htk.out)]; rfl, _, rfl⟩
  · have hb : ((n : Int) != n') = true := by simp; omega
    have Hl := Lib.hid hl; have Hl' := Lib.hid hl'; have Hne := Lib.hid hne; clear hl hl' hc hc' hne
    go_enter Tryd.func90, Tryd.ntmps90
    go_wp2
    go_ret
    exact ⟨by rw [eqL_len (by rw [Hl.out, Hl'.out]; exact Hne.out)]; rfl, 0, rfl⟩
end Go.Proofs.YtgenfffgenddmaaDoor

/- Lists that rise, both texts. -/
import Derived.Test.YtgenfffgenddmaaMod3
import Derived.Test.YtgenfffgenddmaaSc
import Derived.BigQuiet
import Derived.Deep.RegionWith
namespace Go.Proofs.Ytgenfffgenddmaa
open Go.RowKit
set_option linter.unusedSimpArgs false
set_option linter.unusedVariables false
theorem rise_bad {xs : List Int} {m : Int} {k n : Nat} (hk : k < n) (h : xs.getD k 0 < 0 ∨ m ≤ xs.getD k 0) : riseL xs m n = false := by
  refine riseL_mono (j := k + 1) hk ?_
  have : decide (0 ≤ xs.getD k 0 ∧ xs.getD k 0 < m) = false := by simp only [decide_eq_false_iff_not]; omega
  simp only [riseL, this, Bool.and_false, Bool.false_and]
theorem rise_bad2 {xs : List Int} {m : Int} {k n : Nat} (hk : k + 1 < n) (h : xs.getD (k + 1) 0 ≤ xs.getD k 0) : riseL xs m n = false := by
  refine riseL_mono (j := k + 2) hk ?_
  have : decide (xs.getD (k + 1 - 1) 0 < xs.getD (k + 1) 0) = false := by simp only [decide_eq_false_iff_not, Nat.add_sub_cancel]; omega
  have h0 : (k + 1 == 0) = false := by simp
  simp only [riseL, this, h0, Bool.or_self, Bool.and_false]
theorem rise_ok0 {xs : List Int} {m : Int} (h0 : 0 ≤ xs.getD 0 0) (h1 : xs.getD 0 0 < m) : riseL xs m 1 = true := by
  have : decide (0 ≤ xs.getD 0 0 ∧ xs.getD 0 0 < m) = true := by simp only [decide_eq_true_eq]; omega
  simp only [riseL, this, beq_self_eq_true, Bool.true_or, Bool.and_true]
theorem rise_ok {xs : List Int} {m : Int} {k : Nat} (h : riseL xs m (k + 1) = true) (h0 : 0 ≤ xs.getD (k + 1) 0) (h1 : xs.getD (k + 1) 0 < m) (h2 : xs.getD k 0 < xs.getD (k + 1) 0) : riseL xs m (k + 1 + 1) = true := by
  have a : decide (0 ≤ xs.getD (k + 1) 0 ∧ xs.getD (k + 1) 0 < m) = true := by simp only [decide_eq_true_eq]; omega
  have b : decide (xs.getD (k + 1 - 1) 0 < xs.getD (k + 1) 0) = true := by simp only [decide_eq_true_eq, Nat.add_sub_cancel]; exact h2
  rw [riseL, h, a, b]; simp
theorem rise_bad2' {xs : List Int} {m : Int} {k n : Nat} (hk : k < n) (h0 : 0 < k) (h : xs.getD k 0 ≤ xs.getD (k - 1) 0) : riseL xs m n = false := by
  obtain ⟨j, rfl⟩ : ∃ j, k = j + 1 := ⟨k - 1, by omega⟩
  exact rise_bad2 hk h
theorem rise_ok' {xs : List Int} {m : Int} {k : Nat} (h : riseL xs m k = true) (h0 : 0 ≤ xs.getD k 0) (h1 : xs.getD k 0 < m) (h2 : 0 < k → xs.getD (k - 1) 0 < xs.getD k 0) : riseL xs m (k + 1) = true := by
  cases k with
  | zero => exact rise_ok0 h0 h1
  | succ j => exact rise_ok h h0 h1 (h2 (by omega))
set_option maxHeartbeats 1000000 in
theorem i_isRising (A : Option Addr) (n c : Nat) (xs : List Int) (m : Int) (B : Nat) (w : World) (h : IntsAt w B A n c xs) :
    Calls Try.prog 18 #[.slice A n c, .int .i64 m] w fun e w' => e = .returned (.bool (riseL xs m n)) ∧ w = w' := by
  have hn := h.small
  go_enter Try.func18, Try.ntmps18
  go_wp2
  go_loop [9] (fun i => ∃ k : Nat, k ≤ n ∧ i = .int .i64 k ∧ Hid (riseL xs m k = true)) (fun i => n - (intOf i).toNat)
  case atStart => exact ⟨0, Nat.zero_le _, rfl, Lib.hid rfl⟩
  case round =>
    obtain ⟨k, hk, rfl, H⟩ := hrel
    by_cases hlt : k < n
    · obtain ⟨ad, rfl, hab, hc⟩ := h.at_ k hlt
      have hbad := Lib.hid (fun hx => rise_bad (xs := xs) (m := m) hlt hx)
      have hok := Lib.hid (fun h0 h1 h2 => rise_ok' (xs := xs) (m := m) (k := k) H.out h0 h1 h2)
      have hb2 := Lib.hid (fun h0 h2 => rise_bad2' (xs := xs) (m := m) hlt h0 h2)
      have hp := Lib.hid (fun h0 => h.at_ (k - 1) (show k - 1 < n by omega))
      generalize xs.getD k 0 = x at *
      generalize xs.getD (k - 1) 0 = y at *
      have k0 : (0 : Int) ≤ (k : Int) := by omega
      have k1 : (k : Int) < (n : Int) := by omega
      clear h
      by_cases hx0 : x < 0
      · have hT := Lib.hid (hbad.out (.inl hx0))
        clear hbad hok hb2 hp
        go_wp2
        go_ret
        exact ⟨by rw [hT.out]; rfl, rfl⟩
      · have hx0' : decide (x < 0) = false := by simpa using hx0
        by_cases hx1 : m ≤ x
        · have hT := Lib.hid (hbad.out (.inr hx1))
          clear hbad hok hb2 hp
          go_wp2
          go_ret
          exact ⟨by rw [hT.out]; rfl, rfl⟩
        · have hx1' : decide (m ≤ x) = false := by simpa using hx1
          by_cases hk0 : 0 < k
          · obtain ⟨ad', e', hab', hc'⟩ := hp.out (by omega)
            injection e' with e'
            subst e'
            have hki : decide ((0 : Int) < (k : Int)) = true := by simp; omega
            have hkn : decide (0 < k) = true := by simp; omega
            have hc2 := hc'
            have q0 : (0 : Int) ≤ (k : Int) - 1 := by omega
            have q1 : (k : Int) - 1 < (n : Int) := by omega
            by_cases hxy : y < x
            · have hxy' : decide (x ≤ y) = false := by simp; omega
              have hT := Lib.hid (hok.out (by omega) (by omega) (fun _ => hxy))
              clear hbad hok hb2 hp hc' hk0
              go_wp2
              go_round
              case rel => exact ⟨k + 1, by omega, by go_num, hT⟩
              case measure => simp [intOf]; omega
            · have hxy' : decide (x ≤ y) = true := by simp; omega
              have hT := Lib.hid (hb2.out hk0 (by omega))
              clear hbad hok hb2 hp hc' hk0
              go_wp2
              go_ret
              exact ⟨by rw [hT.out]; rfl, rfl⟩
          · have hki : decide ((0 : Int) < (k : Int)) = false := by simp; omega
            have hkn : decide (0 < k) = false := by simp; omega
            have hT := Lib.hid (hok.out (by omega) (by omega) (fun h => absurd h hk0))
            clear hbad hok hb2 hp hk0
            go_wp2
            go_round
            case rel => exact ⟨k + 1, by omega, by go_num, hT⟩
            case measure => simp [intOf]; omega
    · obtain rfl : k = n := by omega
      go_wp2
      go_ret
      exact ⟨by rw [H.out]; rfl, rfl⟩
theorem s_l01In_b {a lo hi : Int} (b : Bool) (h : b = decide (lo ≤ a ∧ a ≤ hi)) (w : World) : Calls Try.prog 13 #[.int .i64 a, .int .i64 lo, .int .i64 hi] w fun e w' => e = .returned (.bool b) ∧ w = w' := by
  subst h
  by_cases hh : lo ≤ a ∧ a ≤ hi
  · rw [decide_eq_true hh]; exact s_l01In_yes a lo hi _ hh.1 hh.2
  · rw [decide_eq_false hh]; exact s_l01In_no a lo hi _ (by omega)
theorem quiet_m {P : Program} {f : FuncId} {args : Array Value} {w : World} {n : Nat} {v : Value}
    (h : Calls P f args (w.drewN n) fun e w' => e = .returned v ∧ w.drewN n = w') : Calls P f args (w.drewN n) fun e w'' => e = .returned v ∧ ∃ m, w'' = w.drewN m :=
  h.mono fun _ _ ⟨he, hm⟩ => ⟨he, n, hm.symm⟩
set_option maxHeartbeats 1000000 in
theorem s_l01Rises (A : Option Addr) (n c : Nat) (xs : List Int) (m : Int) (B : Nat) (w : World) (h : IntsAt w B A n c xs) (hm0 : 0 ≤ m) (hm1 : m ≤ 1048576) :
    Calls Try.prog 14 #[.slice A n c, .int .i64 m] w fun e w' => e = .returned (.bool (riseL xs m n)) ∧ ∃ q, w' = w.drewN q := by
  have hn := h.small
  go_enter Try.func14, Try.ntmps14
  go_wp2
  go_loopw [5] (fun i wr => ∃ k : Nat, k ≤ n ∧ i = .int .i64 k ∧ Hid (riseL xs m k = true) ∧ ∃ q, wr = w.drewN q) (fun i _ => n - (intOf i).toNat)
  case atStart => exact ⟨0, Nat.zero_le _, rfl, Lib.hid rfl, 0, rfl⟩
  case round =>
    obtain ⟨k, hk, rfl, H, q, rfl⟩ := hrel
    by_cases hlt : k < n
    · obtain ⟨ad, rfl, hab, hc⟩ := h.at_ k hlt
      have hbad := Lib.hid (fun hx => rise_bad (xs := xs) (m := m) hlt hx)
      have hok := Lib.hid (fun h0 h1 h2 => rise_ok' (xs := xs) (m := m) (k := k) H.out h0 h1 h2)
      have hb2 := Lib.hid (fun h0 h2 => rise_bad2' (xs := xs) (m := m) hlt h0 h2)
      have hp := Lib.hid (fun h0 => h.at_ (k - 1) (show k - 1 < n by omega))
      generalize xs.getD k 0 = x at *
      generalize xs.getD (k - 1) 0 = y at *
      have k0 : (0 : Int) ≤ (k : Int) := by omega
      have k1 : (k : Int) < (n : Int) := by omega
      have hwm : IntKind.i64.wrap (m - 1) = m - 1 := IntWalk.i64_in _ (by omega)
      clear h
      by_cases hx : 0 ≤ x ∧ x ≤ m - 1
      · have HI := Lib.hid (fun W => s_l01In_b (a := x) (lo := 0) (hi := m - 1) true (by simp [hx]) W)
        by_cases hk0 : 0 < k
        · obtain ⟨ad', e', hab', hc'⟩ := hp.out (by omega)
          injection e' with e'
          subst e'
          have hki : decide ((0 : Int) < (k : Int)) = true := by simp; omega
          have hkn : decide (0 < k) = true := by simp; omega
          have hc2 := hc'
          have q0 : (0 : Int) ≤ (k : Int) - 1 := by omega
          have q1 : (k : Int) - 1 < (n : Int) := by omega
          have hwk : IntKind.i64.wrap ((k : Int) - 1) = (k : Int) - 1 := IntWalk.i64_in _ (by omega)
          by_cases hxy : y < x
          · have hxy' : decide (x ≤ y) = false := by simp; omega
            have hT := Lib.hid (hok.out (by omega) (by omega) (fun _ => hxy))
            clear hbad hok hb2 hp hc' hk0 hx hxy
            go_wp2
            go_quiet ((go_at_call 13; first | exact quiet_l (HI.out _) | exact quiet_add_l (HI.out _)))
            go_wp2
            go_roundw
            case rel => exact ⟨k + 1, by omega, by go_num, hT, _, by first | rfl | exact World.drewN_drewN _ _ _⟩
            case measure => simp [intOf]; omega
          · have hxy' : decide (x ≤ y) = true := by simp; omega
            have hT := Lib.hid (hb2.out hk0 (by omega))
            clear hbad hok hb2 hp hc' hk0 hx hxy
            go_wp2
            go_quiet ((go_at_call 13; first | exact quiet_l (HI.out _) | exact quiet_add_l (HI.out _)))
            go_wp2
            go_ret
            exact ⟨by rw [hT.out]; rfl, _, by first | rfl | exact World.drewN_drewN _ _ _⟩
        · have hki : decide ((0 : Int) < (k : Int)) = false := by simp; omega
          have hkn : decide (0 < k) = false := by simp; omega
          have hT := Lib.hid (hok.out (by omega) (by omega) (fun h => absurd h hk0))
          clear hbad hok hb2 hp hk0 hx
          go_wp2
          go_quiet ((go_at_call 13; first | exact quiet_l (HI.out _) | exact quiet_add_l (HI.out _)))
          go_wp2
          go_roundw
          case rel => exact ⟨k + 1, by omega, by go_num, hT, _, by first | rfl | exact World.drewN_drewN _ _ _⟩
          case measure => simp [intOf]; omega
      · have HI := Lib.hid (fun W => s_l01In_b (a := x) (lo := 0) (hi := m - 1) false (by simp [hx]) W)
        have hT := Lib.hid (hbad.out (by omega))
        clear hbad hok hb2 hp hx
        go_wp2
        go_quiet ((go_at_call 13; first | exact quiet_l (HI.out _) | exact quiet_add_l (HI.out _)))
        go_wp2
        go_ret
        exact ⟨by rw [hT.out]; rfl, _, by first | rfl | exact World.drewN_drewN _ _ _⟩
    · obtain rfl : k = n := by omega
      go_wp2
      go_ret
      exact ⟨by rw [H.out]; rfl, q, rfl⟩
end Go.Proofs.Ytgenfffgenddmaa

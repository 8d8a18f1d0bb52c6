/- The sum of a list, the distance of two states, and the plain law on missed errors. -/
import Derived.Test.YtecelofoffdjlaaMis2
namespace Go.Proofs.Ytecelofoffdjlaa
open Go.RowKit
set_option linter.unusedSimpArgs false
set_option linter.unusedVariables false
theorem wt_append : ∀ xs ys : List Int, wt (xs ++ ys) = wt xs + wt ys
  | [], ys => by simp [wt]
  | x :: xs, ys => by simp only [List.cons_append, wt, wt_append xs ys]; omega
theorem wt_take (xs : List Int) (k : Nat) (h : k < xs.length) : wt (xs.take (k + 1)) = wt (xs.take k) + (xs.getD k 0).toNat := by
  have e : xs.take (k + 1) = xs.take k ++ [xs.getD k 0] := by
    rw [List.take_add_one, List.getElem?_eq_getElem h, List.getD_eq_getElem?_getD, List.getElem?_eq_getElem h]; rfl
  rw [e, wt_append]
  simp [wt]
theorem wt_le : ∀ (xs : List Int), bit01 xs → wt xs ≤ xs.length
  | [], _ => by simp [wt]
  | x :: xs, h => by
    have h1 := h.toNat
    have h2 := wt_le xs h.tail
    simp only [wt, List.length_cons]; omega
theorem diff_wt (xs ys : List Int) : ∀ k, (diffL xs ys k).length = wt (sumL xs ys k)
  | 0 => by simp [diffL, sumL, wt]
  | k + 1 => by
    rw [diffL_succ, sumL_succ, wt_append, ← diff_wt xs ys k]
    by_cases h : xs.getD k 0 = ys.getD k 0
    · rw [if_neg (by simpa using h), if_pos h]; simp [wt]
    · rw [if_pos h, if_neg h]; simp [wt]
theorem bit01_of {xs : List Int} (h : bitsOk xs = true) : bit01 xs := by
  intro x hx
  have h1 := (allIn_iff xs 0 1).1 (by simp only [bitsOk, Bool.and_eq_true] at h; exact h.2)
  obtain ⟨i, hi, rfl⟩ := List.mem_iff_getElem.1 hx
  have := h1 i hi
  rw [List.getD_eq_getElem?_getD, List.getElem?_eq_getElem hi] at this
  exact this
theorem mis_law (k : Int) (SA SB : List Int) {xs : List Int} (hm : mlOk xs = true) (hn : xs.length ≤ 900) :
    ((wt xs + (if k = 0 then (diffL SA SB 64).length else 0)) = 0 → crcL (meR k SA SB) xs = 0) ∧ (1 ≤ (wt xs + (if k = 0 then (diffL SA SB 64).length else 0)) → (wt xs + (if k = 0 then (diffL SA SB 64).length else 0)) ≤ 3 → crcL (meR k SA SB) xs ≠ 0) := by
  have hb : bitsOk xs = true := by simp only [mlOk, Bool.and_eq_true] at hm; exact hm.1.1.1.1
  have h1 := bit01_of hb
  by_cases hk : k = 0
  · rw [if_pos hk, diff_wt]
    have hS : bit01 (sumL SA SB 64) := fun x hx => sumL_mem SA SB 64 x hx
    have e : crcL (meR k SA SB) xs = crcL 0 (sumL SA SB 64 ++ xs) := by rw [crcL_append]; simp [meR, hk]
    have hc : bit01 (sumL SA SB 64 ++ xs) := fun x hx => by
      rcases List.mem_append.1 hx with hx | hx
      · exact hS x hx
      · exact h1 x hx
    have hw := wt_append (sumL SA SB 64) xs
    rw [e]
    exact ⟨fun h => crc_none _ hc (by omega), fun h2 h3 => crc_found _ hc (by rw [List.length_append, sumL_len]; omega) (by omega) (by omega)⟩
  · rw [if_neg hk, Nat.add_zero]
    have e : meR k SA SB = 0 := by simp [meR, hk]
    rw [e]
    exact ⟨fun h => crc_none _ h1 h, fun h2 h3 => crc_found _ h1 (by omega) h2 h3⟩
theorem h_sum (A : Option Addr) (n c : Nat) (xs : List Int) (B : Nat) (w : World) (h : IntsAt w B A n c xs) (hb : bitsOk xs = true) :
    Calls Try.prog 63 #[.slice A n c] w fun e w' => e = .returned (.int .i64 ((wt xs : Nat) : Int)) ∧ w = w' := by
  have hn := h.small
  have hl := h.len
  have hb1 := bit01_of hb
  have hle : ∀ k, wt (xs.take k) ≤ n := fun k => Nat.le_trans (wt_le _ (fun x hx => hb1 x (List.mem_of_mem_take hx))) (by rw [List.length_take]; omega)
  have HLE := Lib.hid hle
  have HB := Lib.hid ((allIn_iff xs 0 1).1 (by simp only [bitsOk, Bool.and_eq_true] at hb; exact hb.2))
  have HL := Lib.hid hl
  clear hle hb hb1 hl
  go_enter Try.func63, Try.ntmps63
  go_wp2_with fail
  go_loopw [3, 4] (fun s i wr => ∃ k : Nat, k ≤ n ∧ i = .int .i64 k ∧ s = .int .i64 ((wt (xs.take k) : Nat) : Int) ∧ wr = w) (fun _ i _ => n - (intOf i).toNat)
  case atStart => exact ⟨0, by omega, rfl, by simp [wt], rfl⟩
  case round =>
    obtain ⟨k, hk, rfl, rfl, rfl⟩ := hrel
    by_cases hlt : k < n
    · obtain ⟨ad, rfl, hab, hx⟩ := h.at_ k hlt
      have hs := Lib.hid (wt_take xs k (by rw [HL.out]; exact hlt))
      have hbx := HB.out k (by rw [HL.out]; exact hlt)
      have h1 := HLE.out k
      have h2 := HLE.out (k + 1)
      generalize wt (xs.take k) = s at *
      generalize hT : wt (xs.take (k + 1)) = s' at *
      replace hT := Lib.hid hT
      generalize xs.getD k 0 = x at *
      have h3 : (s : Int) + x = (s' : Int) := by have := hs.out; omega
      have h4 : (s' : Int) ≤ 16777216 := by omega
      have h5 : (k : Int) < (n : Int) := by omega
      go_wp2
      go_roundw
      case rel => exact ⟨k + 1, by omega, by go_num, by (rw [hT.out]), by first | rfl | trivial⟩
      case measure => simp [intOf]; omega
    · have hd : decide ((k : Int) < (n : Int)) = false := by simp; omega
      have hT := Lib.hid (show wt (xs.take k) = wt xs from by rw [List.take_of_length_le (by rw [HL.out]; omega)])
      go_wp2
      go_ret
      show _ ∧ _
      refine ⟨?_, rfl⟩
      simp
      rw [hT.out]
end Go.Proofs.Ytecelofoffdjlaa

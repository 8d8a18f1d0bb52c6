/- Contracts: a number out of bits, the bits of bytes, of the program and of the reference. -/
import Derived.Test.YtjheanonklgbcaaNums
import Derived.Test.YtjheanonklgbcaaByt
import Derived.Test.YtjheanonklgbcaaNum
import Derived.Deep.Cut
import Derived.BigRegion
namespace Go.Proofs.Ytjheanonklgbcaa
open Go.RowKit
set_option linter.unusedSimpArgs false
set_option linter.unusedVariables false
theorem num_bd (xs : List Int) (h : bit01 xs) (m : Nat) (hm : m ≤ 40) : numL (xs.take m) < 1099511627776 := by
  have := numL_lt' (xs.take m) (h.take _) 40 (by simp; omega)
  omega
set_option maxHeartbeats 1000000 in
theorem i_toBits (A : Option Addr) (n c : Nat) (xs : List Int) (B : Nat) (w : World) (h : IntsAt w B A n c xs) (hB : B ≤ w.heap.size) (hb : ∀ k, k < n → 0 ≤ xs.getD k 0 ∧ xs.getD k 0 ≤ 255) (hn : n ≤ 1000000) :
    Calls Try.prog 108 #[.slice A n c] w fun e w' => ∃ v, e = .returned v ∧ IOwn w' w.heap.size v (bitsL xs) ∧ Below w.heap.size w w' := by
  have hl := h.len
  go_enter Try.func108, Try.ntmps108
  go_wp2_with fail
  go_loopw [3, 9] (fun o i wr => ∃ k : Nat, k ≤ n ∧ i = .int .i64 k ∧ IOwn wr w.heap.size o (bitsL (xs.take k)) ∧ Below w.heap.size w wr) (fun _ i _ => n - (intOf i).toNat)
  case atStart => exact ⟨0, by omega, rfl, lit_own w [] _ (Nat.le_refl _) (by simp), (Below.refl _ _).alloc (Nat.le_refl _) _⟩
  case round =>
    obtain ⟨k, hk, rfl, hown, hbl⟩ := hrel
    have hsz := hbl.size
    by_cases hlt : k < n
    · obtain ⟨ad, rfl, hab, hx⟩ := h.at_ k hlt
      have hx1 : wr.cell? (ad.add k) = some (.int .i64 (xs.getD k 0)) := by rw [hbl.cell (by rw [block_add]; omega)]; exact hx
      have hlen : (bitsL (xs.take k)).length ≤ 8000000 := by rw [bitsL_len]; simp; omega
      have hs := bitsL_take xs k (by omega)
      obtain ⟨x0, x1⟩ := hb k hlt
      clear hx
      generalize hX : xs.getD k 0 = x at hx1 hs x0 x1
      obtain ⟨b, rfl⟩ := Int.eq_ofNat_of_zero_le x0
      rw [Int.toNat_natCast] at hs
      have HX := Lib.hid hX; have Hs := Lib.hid hs; clear hX hs
      go_wp2_with (go_at_call 109; refine (i_appendNumber b 8 _ _ w.heap.size _ hown hsz (by omega) (by omega) (by omega)).mono ?_; rintro e w1 ⟨v1, rfl, ho1, hb1⟩)
      go_roundw
      case rel => exact ⟨k + 1, by omega, by go_num, by rw [Hs.out]; exact ho1, hbl.trans hb1⟩
      case measure => simp [intOf]; omega
    · have hk' : k = n := by omega
      have e : bitsL (xs.take k) = bitsL xs := by rw [List.take_of_length_le (by omega)]
      rw [e] at hown
      clear hk'
      go_wp2
      go_ret
      exact ⟨_, rfl, hown, hbl⟩
end Go.Proofs.Ytjheanonklgbcaa

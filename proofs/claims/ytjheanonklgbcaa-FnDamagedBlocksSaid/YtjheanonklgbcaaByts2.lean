/- The bits of bytes: the reference's. -/
import Derived.Test.YtjheanonklgbcaaByts
import Derived.BigRegion
namespace Go.Proofs.Ytjheanonklgbcaa
open Go.RowKit
set_option linter.unusedSimpArgs false
set_option linter.unusedVariables false
set_option maxHeartbeats 2000000 in
theorem s_l01Bits (A : Option Addr) (n c : Nat) (xs : List Int) (B : Nat) (w : World) (h : IntsAt w B A n c xs) (hB : B ≤ w.heap.size) (hb : ∀ k, k < n → 0 ≤ xs.getD k 0 ∧ xs.getD k 0 ≤ 255) (hn : n ≤ 1000000) :
    Calls Try.prog 104 #[.slice A n c] w fun e w' => ∃ v, e = .returned v ∧ IOwn w' w.heap.size v (bitsL xs) ∧ Below w.heap.size w w' := by
  have hl := h.len
  go_enter Try.func104, Try.ntmps104
  go_wp2_with fail
  go_loopw [3, 4] (fun o i wr => ∃ k : Nat, k ≤ n ∧ i = .int .i64 k ∧ IOwn wr w.heap.size o (bitsL (xs.take k)) ∧ Below w.heap.size w wr) (fun _ i _ => n - (intOf i).toNat)
  case atStart => exact ⟨0, by omega, rfl, lit_own w [] _ (Nat.le_refl _) (by simp), (Below.refl _ _).alloc (Nat.le_refl _) _⟩
  case round =>
    obtain ⟨k, hk, rfl, hown, hbl⟩ := hrel
    have hsz := hbl.size
    by_cases hlt : k < n
    · obtain ⟨ad, rfl, hab, hx⟩ := h.at_ k hlt
      have hlen : (bitsL (xs.take k)).length ≤ 8000000 := by rw [bitsL_len]; simp; omega
      have hs := bitsL_take xs k (by omega)
      obtain ⟨x0, x1⟩ := hb k hlt
      have hcell : ∀ W, Below w.heap.size w W → W.cell? (ad.add k) = some (.int .i64 (xs.getD k 0)) := fun W hW => by rw [hW.cell (by rw [block_add]; omega)]; exact hx
      clear hx
      generalize hX : xs.getD k 0 = x at hcell hs x0 x1
      obtain ⟨b, rfl⟩ := Int.eq_ofNat_of_zero_le x0
      rw [Int.toNat_natCast] at hs
      have HX := Lib.hid hX; have Hs := Lib.hid hs; have HC := Lib.hid hcell; clear hX hs hcell
      have HV := Lib.hid (bit_and b)
      have b0 : (0 : Int) ≤ (k : Int) := by omega
      have b1 : (k : Int) < (n : Int) := by omega
      go_wp2
      go_loopw [3, 5] (fun q i wi => ∃ (j : Nat) (y : Int), j ≤ 8 ∧ i = .int .i64 y ∧ y + 1 = j ∧ ∃ ys, IOwn wi w.heap.size q ys ∧ Hid (ys ++ bitsN b j = bitsL (xs.take k) ++ bitsN b 8) ∧ ys.length + j ≤ 8000064 ∧ Below w.heap.size w wi) (fun _ i _ => (intOf i + 1).toNat)
      case atStart => exact ⟨8, 7, Nat.le_refl _, rfl, by omega, _, hown, rfl, by omega, hbl⟩
      case round =>
        obtain ⟨j, y, hj, rfl, hy, ys, hown1, He, hlen1, hb1⟩ := hrel
        have hsz1 := hb1.size
        rcases j with _ | j
        · obtain rfl : y = -1 := by omega
          have hfin : ys = bitsL (xs.take (k + 1)) := by rw [Hs.out, ← He.out]; simp [bitsN]
          have HF := Lib.hid hfin; clear hfin
          go_wp2
          go_roundw
          case rel => exact ⟨k + 1, by omega, by go_num, by rw [← HF.out]; exact hown1, hb1⟩
          case measure => simp [intOf]; omega
        · obtain rfl : y = j := by omega
          have hc := HC.out _ hb1
          have he := HV.out j (by omega)
          have HE := Lib.hid he; clear he
          go_wp2_with (at_builtin; refine wpList_app _ rfl _ _ 22 rfl w.heap.size Try.underlying22 int_info _ ys rfl (hown1.alloc _) _ _ 1 1 [bits .and .i64 ((b : Int) / 2 ^ j) 1] rfl (lit_ints wr [bits .and .i64 ((b : Int) / 2 ^ j) 1] 2 (by simp)) (by omega) (by simp; omega) ?_; intro v' w' hown' hg' _)
          have hb' := app_below' hb1 (Nat.le_refl _) (by omega) hown1 hg'
          go_roundw
          case rel => exact ⟨j, (j : Int) - 1, by omega, by go_num, by omega, _, hown', by show _ = _; rw [HE.out, List.append_assoc]; exact He.out, by simp; omega, hb'⟩
          case measure => simp [intOf]
    · have hk' : k = n := by omega
      have e : bitsL (xs.take k) = bitsL xs := by rw [List.take_of_length_le (by omega)]
      rw [e] at hown
      clear hk'
      go_wp2
      go_ret
      exact ⟨_, rfl, hown, hbl⟩
end Go.Proofs.Ytjheanonklgbcaa

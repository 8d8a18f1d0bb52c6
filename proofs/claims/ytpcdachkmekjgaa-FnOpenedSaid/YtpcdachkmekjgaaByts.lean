/- Contracts: a number out of bits, the bits of bytes, of the program and of the reference. -/
import Derived.Test.YtpcdachkmekjgaaNums
import Derived.Test.YtpcdachkmekjgaaByt
import Derived.Test.YtpcdachkmekjgaaNum
import Derived.Deep.Cut
import Derived.BigRegion
namespace Go.Proofs.Ytpcdachkmekjgaa
open Go.RowKit
set_option linter.unusedSimpArgs false
set_option linter.unusedVariables false
theorem num_bd (xs : List Int) (h : bit01 xs) (m : Nat) (hm : m ≤ 40) : numL (xs.take m) < 1099511627776 := by
  have := numL_lt' (xs.take m) (h.take _) 40 (by simp; omega)
  omega
set_option maxHeartbeats 1000000 in
theorem i_numberOf (A : Option Addr) (n c : Nat) (xs : List Int) (B : Nat) (w : World) (h : IntsAt w B A n c xs) (hb : bit01 xs) (hn : n ≤ 40) :
    Calls Try.prog 116 #[.slice A n c] w fun e w' => e = .returned (.int .i64 (numL xs : Nat)) ∧ w = w' := by
  have hl := h.len
  go_enter Try.func116, Try.ntmps116
  go_wp2
  go_loop [3, 8] (fun q i => ∃ k : Nat, k ≤ n ∧ i = .int .i64 k ∧ ∃ r : Nat, r < 1099511627776 ∧ q = .int .i64 r ∧ Hid (r = numL (xs.take k))) (fun _ i => n - (intOf i).toNat)
  case atStart => exact ⟨0, Nat.zero_le _, rfl, 0, by omega, rfl, Lib.hid rfl⟩
  case round =>
    obtain ⟨k, hk, rfl, r, hr1, rfl, Hr⟩ := hrel
    by_cases hlt : k < n
    · obtain ⟨ad, rfl, _, hx⟩ := h.at_ k hlt
      obtain ⟨x0, x1⟩ := hb.getD k
      have hstep := numL_take xs k (by omega)
      have hbd := num_bd xs hb (k + 1) (by omega)
      generalize hX : xs.getD k 0 = x at hx x0 x1 hstep
      rw [← Hr.out] at hstep
      rw [hstep] at hbd
      obtain ⟨b, rfl⟩ := Int.eq_ofNat_of_zero_le x0
      rw [Int.toNat_natCast] at hstep hbd
      have HX := Lib.hid hX; have HS := Lib.hid hstep; clear hX hstep
      go_wp2
      go_round
      case rel => exact ⟨k + 1, by omega, by go_num, 2 * r + b, hbd, by (show Value.int .i64 _ = Value.int .i64 _; congr 1; try omega), Lib.hid HS.out.symm⟩
      case measure => simp [intOf]; omega
    · have hkn : k = n := by omega
      have hfin : r = numL xs := by rw [Hr.out, List.take_of_length_le (by omega)]
      have HF := Lib.hid hfin
      clear hfin hkn
      go_wp2
      go_ret
      exact ⟨by rw [← HF.out]; rfl, rfl⟩
set_option maxHeartbeats 1000000 in
theorem s_l01Number (A : Option Addr) (n c : Nat) (xs : List Int) (B a m : Nat) (w : World) (h : IntsAt w B A n c xs) (hb : bit01 xs) (hm : m ≤ 40) (ha : a + m ≤ n) :
    Calls Try.prog 117 #[.slice A n c, .int .i64 a, .int .i64 m] w fun e w' => e = .returned (.int .i64 (numL ((xs.drop a).take m) : Nat)) ∧ w = w' := by
  have hl := h.len
  have hs := h.small
  go_enter Try.func117, Try.ntmps117
  go_wp2
  go_loop [7, 8] (fun q i => ∃ k : Nat, k ≤ m ∧ i = .int .i64 k ∧ ∃ r : Nat, r < 1099511627776 ∧ q = .int .i64 r ∧ Hid (r = numL ((xs.drop a).take k))) (fun _ i => m - (intOf i).toNat)
  case atStart => exact ⟨0, Nat.zero_le _, rfl, 0, by omega, rfl, Lib.hid rfl⟩
  case round =>
    obtain ⟨k, hk, rfl, r, hr1, rfl, Hr⟩ := hrel
    by_cases hlt : k < m
    · obtain ⟨ad, rfl, _, hx⟩ := h.at_ (a + k) (by omega)
      obtain ⟨x0, x1⟩ := hb.getD (a + k)
      have hstep := numL_take (xs.drop a) k (by simp; omega)
      have hbd := num_bd (xs.drop a) (hb.drop a) (k + 1) (by omega)
      have hg : (xs.drop a).getD k 0 = xs.getD (a + k) 0 := by simp [List.getD_eq_getElem?_getD]
      rw [hg] at hstep
      clear hg
      generalize hX : xs.getD (a + k) 0 = x at hx x0 x1 hstep
      rw [← Hr.out] at hstep
      rw [hstep] at hbd
      obtain ⟨b, rfl⟩ := Int.eq_ofNat_of_zero_le x0
      rw [Int.toNat_natCast] at hstep hbd
      have HX := Lib.hid hX; have HS := Lib.hid hstep; clear hX hstep
      have hx' : w.cell? (ad.add ((a : Int) + (k : Int)).toNat) = some (.int .i64 b) := by rw [show ((a : Int) + (k : Int)).toNat = a + k by omega]; exact hx
      go_wp2
      go_round
      case rel => exact ⟨k + 1, by omega, by go_num, 2 * r + b, hbd, by (show Value.int .i64 _ = Value.int .i64 _; congr 1; try omega), Lib.hid HS.out.symm⟩
      case measure => simp [intOf]; omega
    · have hkn : k = m := by omega
      have hfin : r = numL ((xs.drop a).take m) := by rw [Hr.out, hkn]
      have HF := Lib.hid hfin
      clear hfin hkn
      go_wp2
      go_ret
      exact ⟨by rw [← HF.out]; rfl, rfl⟩
theorem s_l01Number' (A : Option Addr) (n c : Nat) (xs : List Int) (B a m : Nat) (ai mi : Int) (w : World) (h : IntsAt w B A n c xs) (hb : bit01 xs) (hm : m ≤ 40) (ha : a + m ≤ n) (ea : ai = a) (em : mi = m) :
    Calls Try.prog 117 #[.slice A n c, .int .i64 ai, .int .i64 mi] w fun e w' => e = .returned (.int .i64 (numL ((xs.drop a).take m) : Nat)) ∧ w = w' := by
  subst ea em
  exact s_l01Number A n c xs B a m w h hb hm ha
set_option maxHeartbeats 1000000 in
theorem i_toBits (A : Option Addr) (n c : Nat) (xs : List Int) (B : Nat) (w : World) (h : IntsAt w B A n c xs) (hB : B ≤ w.heap.size) (hb : ∀ k, k < n → 0 ≤ xs.getD k 0 ∧ xs.getD k 0 ≤ 255) (hn : n ≤ 1000000) :
    Calls Try.prog 90 #[.slice A n c] w fun e w' => ∃ v, e = .returned v ∧ IOwn w' w.heap.size v (bitsL xs) ∧ Below w.heap.size w w' := by
  have hl := h.len
  go_enter Try.func90, Try.ntmps90
  go_wp2_with fail
  go_loopw [3, 9] (fun o i wr => ∃ k : Nat, k ≤ n ∧ i = .int .i64 k ∧ IOwn wr w.heap.size o (bitsL (xs.take k)) ∧ Below w.heap.size w wr) (fun _ i _ => n - (intOf i).toNat)
  case atStart => exact ⟨0, by omega, rfl, lit_own w [] _ (Nat.le_refl _) (by simp), (Below.refl _ _).alloc (Nat.le_refl _) _⟩
  case round =>
    obtain ⟨k, hk, rfl, hown, hbl⟩ := hrel
    have hsz := hbl.size
    by_cases hlt : k < n
    · obtain ⟨ad, rfl, hab, hx⟩ := h.at_ k hlt
      have hx1 : wr.cell? (ad.add k) = some (.int .i64 (xs.getD k 0)) := by rw [hbl.cell (by rw [block_add]; omega)]; exact hx
      have hlen : (bitsL (xs.take k)).length ≤ 8000000 := by rw [bitsL_len]; simp; omega
      have hs := bitsL_take xs k (by omega)
      obtain ⟨x0, x1⟩ := hb k hlt
      clear hx
      generalize hX : xs.getD k 0 = x at hx1 hs x0 x1
      obtain ⟨b, rfl⟩ := Int.eq_ofNat_of_zero_le x0
      rw [Int.toNat_natCast] at hs
      have HX := Lib.hid hX; have Hs := Lib.hid hs; clear hX hs
      go_wp2_with (go_at_call 114; refine (i_appendNumber b 8 _ _ w.heap.size _ hown hsz (by omega) (by omega) (by omega)).mono ?_; rintro e w1 ⟨v1, rfl, ho1, hb1⟩)
      go_roundw
      case rel => exact ⟨k + 1, by omega, by go_num, by rw [Hs.out]; exact ho1, hbl.trans hb1⟩
      case measure => simp [intOf]; omega
    · have hk' : k = n := by omega
      have e : bitsL (xs.take k) = bitsL xs := by rw [List.take_of_length_le (by omega)]
      rw [e] at hown
      clear hk'
      go_wp2
      go_ret
      exact ⟨_, rfl, hown, hbl⟩
set_option maxHeartbeats 1000000 in
theorem s_l01Bytes (A : Option Addr) (n c : Nat) (xs : List Int) (B m : Nat) (w : World) (h : IntsAt w B A n c xs) (hB : B ≤ w.heap.size) (hb : bit01 xs) (hn : n = 8 * m) :
    Calls Try.prog 93 #[.slice A n c] w fun e w' => ∃ v, e = .returned v ∧ IOwn w' w.heap.size v (bytesN xs m) ∧ Below w.heap.size w w' := by
  have hl := h.len
  have hs := h.small
  have Hn := Lib.hid hn
  clear hn
  go_enter Try.func93, Try.ntmps93
  go_wp2_with fail
  go_loopw [3, 4] (fun o i wr => ∃ k : Nat, k ≤ m ∧ i = .int .i64 ((8 * k : Nat) : Int) ∧ IOwn wr w.heap.size o (bytesN xs k) ∧ Below w.heap.size w wr) (fun _ i _ => n - (intOf i).toNat)
  case atStart => exact ⟨0, by omega, rfl, lit_own w [] _ (Nat.le_refl _) (by simp), (Below.refl _ _).alloc (Nat.le_refl _) _⟩
  case round =>
    obtain ⟨k, hk, rfl, hown, hbl⟩ := hrel
    have hsz := hbl.size
    have hlen := bytesN_len xs k
    by_cases hlt : k < m
    · have h1 := h.below' hB hbl
      have hle : 8 * k + 8 ≤ n := by have := Hn.out; omega
      have hs1 := bytesN_succ xs k
      have hw2 : numL ((xs.drop (8 * k)).take 8) < 1099511627776 := num_bd _ (hb.drop _) 8 (by omega)
      have Hs := Lib.hid hs1; clear hs1
      go_wp2_with (first
        | (go_at_call 117; refine (s_l01Number' _ _ _ xs _ (8 * k) 8 _ _ _ h1 hb (by omega) hle (by omega) (by omega)).mono ?_; rintro e w' ⟨rfl, rfl⟩)
        | (at_builtin; refine wpList_app _ rfl _ _ 24 rfl w.heap.size Try.underlying24 int_info _ (bytesN xs k) rfl (hown.alloc _) _ _ 1 1 [((numL ((xs.drop (8 * k)).take 8) : Nat) : Int)] rfl (lit_ints wr [((numL ((xs.drop (8 * k)).take 8) : Nat) : Int)] 2 (by simp)) (by omega) (by simp; omega) ?_; intro v' w' hown' hg' _))
      have hb' := app_below' hbl (Nat.le_refl _) hsz hown hg'
      go_roundw
      case rel => exact ⟨k + 1, by omega, by first | go_num | (congr 1; omega), by rw [Hs.out]; exact hown', hb'⟩
      case measure => have := Hn.out; simp [intOf]; omega
    · have hk' : k = m := by omega
      subst hk'
      have hgt : (n : Int) < 8 * (k : Int) + 8 := by have := Hn.out; omega
      have hg2 : 8 * k ≤ 16777216 := by have := Hn.out; omega
      go_wp2
      go_ret
      exact ⟨_, rfl, hown, hbl⟩
end Go.Proofs.Ytpcdachkmekjgaa

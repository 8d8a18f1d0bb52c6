/- The cyclic code's register: the program's feed and the reference's, over one plain fold. -/
import Derived.Test.YtecelofoffdjlaaByt
import Derived.Test.YtecelofoffdjlaaNum
import Derived.Deep.Cut
namespace Go.Proofs.Ytecelofoffdjlaa
open Go.RowKit
set_option linter.unusedSimpArgs false
set_option linter.unusedVariables false
/-- One bit into the register of the standard code. -/
def crcN (reg bit : Nat) : Nat := if bit ^^^ (reg / 8388608) = 1 then ((reg % 8388608) * 2) ^^^ 6122955 else (reg % 8388608) * 2
theorem crcN_lt (reg bit : Nat) (h : reg < 16777216) : crcN reg bit < 16777216 := by
  unfold crcN
  split
  · exact Nat.xor_lt_two_pow (n := 24) (by omega) (by omega)
  · omega
def crcL (reg : Nat) (xs : List Int) : Nat := xs.foldl (fun r x => crcN r x.toNat) reg
theorem crcL_lt (xs : List Int) : ∀ reg, reg < 16777216 → crcL reg xs < 16777216 := by
  induction xs with
  | nil => intro r h; exact h
  | cons x xs ih => intro r h; exact ih _ (crcN_lt r x.toNat h)
theorem crcL_take (reg : Nat) (xs : List Int) (k : Nat) (h : k < xs.length) : crcL reg (xs.take (k + 1)) = crcN (crcL reg (xs.take k)) (xs.getD k 0).toNat := by
  rw [take_succ_getD xs k h]
  unfold crcL
  rw [List.foldl_append]
  rfl
theorem crc_and (a : Nat) (h : a < 16777216) : bits .and .i64 ((a * 2 : Nat) : Int) ((16777215 : Nat) : Int) = ((a % 8388608 * 2 : Nat) : Int) := by
  rw [and_nat _ _ (by omega) (by omega)]
  congr 1
  have e : (16777215 : Nat) = 2 ^ 24 - 1 := by decide
  rw [e, Nat.and_two_pow_sub_one_eq_mod]
  omega
set_option maxHeartbeats 1000000 in
theorem i_feed (reg : Nat) (A : Option Addr) (n c : Nat) (xs : List Int) (B : Nat) (w : World) (h : IntsAt w B A n c xs) (hB : B ≤ w.heap.size) (hr : reg < 16777216) (hb : ∀ k, k < n → 0 ≤ xs.getD k 0 ∧ xs.getD k 0 ≤ 1) :
    Calls Try.prog 97 #[.agg #[.int .i64 24, .int .i64 6122955], .int .i64 reg, .slice A n c] w fun e w' => e = .returned (.int .i64 (crcL reg xs : Nat)) ∧ Below w.heap.size w w' := by
  have hI := h.alloc hB (.cells #[.int .i64 24, .int .i64 6122955] 94)
  have bA := (Below.refl w.heap.size w).alloc (Nat.le_refl _) (.cells #[.int .i64 24, .int .i64 6122955] 94)
  have R := heap_alloc_new w (.cells #[.int .i64 24, .int .i64 6122955] 94)
  have hl := h.len
  have hn := h.small
  clear h
  go_enter Try.func97, Try.ntmps97
  go_wp2
  generalize w.alloc _ = W at hI bA R ⊢
  generalize w.heap.size = g at R hB ⊢
  go_loop [1, 12] (fun q i => ∃ k : Nat, k ≤ n ∧ i = .int .i64 k ∧ ∃ r : Nat, r < 16777216 ∧ q = .int .i64 r ∧ Hid (r = crcL reg (xs.take k))) (fun _ i => n - (intOf i).toNat)
  case atStart => exact ⟨0, Nat.zero_le _, rfl, reg, hr, rfl, Lib.hid rfl⟩
  case round =>
    obtain ⟨k, hk, rfl, r, hr1, rfl, Hr⟩ := hrel
    by_cases hlt : k < n
    · obtain ⟨ad, rfl, _, hx⟩ := hI.at_ k hlt
      obtain ⟨x0, x1⟩ := hb k hlt
      generalize hX : xs.getD k 0 = x at hx x0 x1
      have HX := Lib.hid hX; clear hX
      have p0 : W.cell? ⟨g, 0, none⟩ = some (.int .i64 24) := cell_of_row _ _ _ _ _ _ R
      have p1 : W.cell? ⟨g, 1, none⟩ = some (.int .i64 6122955) := cell_of_row _ _ _ _ _ _ R
      go_upto_region 6 with fail
      obtain ⟨b, rfl⟩ := Int.eq_ofNat_of_zero_le x0
      have hstep : crcL reg (xs.take (k + 1)) = crcN r b := by
        rw [crcL_take reg xs k (by omega), HX.out, ← Hr.out, Int.toNat_natCast]
      have HST := Lib.hid hstep
      have e1 : bits .xor .i64 (b : Int) ((r : Int) / 8388608) = ((b ^^^ (r / 8388608) : Nat) : Int) := by
        have h9 := xor_nat b (r / 8388608) (by omega) (by omega)
        rw [show ((r : Int) / 8388608) = ((r / 8388608 : Nat) : Int) by omega]; exact h9
      have e2 : bits .and .i64 ((r : Int) * 2) 16777215 = ((r % 8388608 * 2 : Nat) : Int) := by
        have h9 := crc_and r hr1; rw [Int.natCast_mul] at h9; exact h9
      rw [e1, e2]
      have hlt2 := crcN_lt r b hr1
      have hN : crcN r b = if b ^^^ (r / 8388608) = 1 then ((r % 8388608) * 2) ^^^ 6122955 else (r % 8388608) * 2 := rfl
      have h24 : r % 8388608 * 2 < 16777216 := by omega
      clear e1 e2 hstep
      generalize b ^^^ (r / 8388608) = T at hN ⊢
      generalize r % 8388608 * 2 = U at hN h24 ⊢
      have e3 : bits .xor .i64 (U : Int) 6122955 = ((U ^^^ 6122955 : Nat) : Int) := xor_nat U 6122955 (by omega) (by omega)
      by_cases ht : T = 1
      · have q1 : ((T : Int) == 1) = true := by subst ht; rfl
        rw [if_pos ht] at hN
        have HN := Lib.hid hN; have E3 := Lib.hid e3
        clear hN e3 ht
        go_wp2
        rw [E3.out, ← HN.out]
        go_round
        case rel => exact ⟨k + 1, by omega, by go_num, _, hlt2, rfl, Lib.hid HST.out.symm⟩
        case measure => simp [intOf]; omega
      · have q1 : ((T : Int) == 1) = false := by simp; omega
        rw [if_neg ht] at hN
        have HN := Lib.hid hN
        clear hN e3 ht
        go_wp2
        rw [← HN.out]
        go_round
        case rel => exact ⟨k + 1, by omega, by go_num, _, hlt2, rfl, Lib.hid HST.out.symm⟩
        case measure => simp [intOf]; omega
    · have hkn : k = n := by omega
      have hfin : r = crcL reg xs := by rw [Hr.out, List.take_of_length_le (by omega)]
      have HF := Lib.hid hfin
      clear hfin hkn
      go_wp2
      go_ret
      exact ⟨by rw [← HF.out]; rfl, bA⟩
theorem drewN_drew (w : World) (m : Nat) : (w.drewN m).drew = w.drewN (m + 1) := rfl
set_option maxHeartbeats 1000000 in
theorem s_l02Feed (reg : Nat) (A : Option Addr) (n c : Nat) (xs : List Int) (B : Nat) (w : World) (h : IntsAt w B A n c xs) (hB : B ≤ w.heap.size) (hr : reg < 16777216) (hb : ∀ k, k < n → 0 ≤ xs.getD k 0 ∧ xs.getD k 0 ≤ 1) :
    Calls Try.prog 88 #[.agg #[.int .i64 24, .int .i64 6122955], .int .i64 reg, .slice A n c] w fun e w' => e = .returned (.int .i64 (crcL reg xs : Nat)) ∧ Below w.heap.size w w' := by
  have hI := h.alloc hB (.cells #[.int .i64 24, .int .i64 6122955] 94)
  have bA := (Below.refl w.heap.size w).alloc (Nat.le_refl _) (.cells #[.int .i64 24, .int .i64 6122955] 94)
  have R := heap_alloc_new w (.cells #[.int .i64 24, .int .i64 6122955] 94)
  have hl := h.len
  have hn := h.small
  clear h
  go_enter Try.func88, Try.ntmps88
  go_wp2
  generalize w.alloc _ = W at hI bA R ⊢
  generalize w.heap.size = g at R
  go_loopw [1, 8] (fun q i wr => ∃ k : Nat, k ≤ n ∧ i = .int .i64 k ∧ ∃ r : Nat, r < 16777216 ∧ q = .int .i64 r ∧ Hid (r = crcL reg (xs.take k)) ∧ ∃ m, wr = W.drewN m) (fun _ i _ => n - (intOf i).toNat)
  case atStart => exact ⟨0, Nat.zero_le _, rfl, reg, hr, rfl, Lib.hid rfl, 0, rfl⟩
  case round =>
    obtain ⟨k, hk, rfl, r, hr1, rfl, Hr, m, rfl⟩ := hrel
    by_cases hlt : k < n
    · obtain ⟨ad, rfl, _, hx⟩ := hI.at_ k hlt
      obtain ⟨x0, x1⟩ := hb k hlt
      generalize hX : xs.getD k 0 = x at hx x0 x1
      have HX := Lib.hid hX; clear hX
      have p0 : W.cell? ⟨g, 0, none⟩ = some (.int .i64 24) := cell_of_row _ _ _ _ _ _ R
      have p1 : W.cell? ⟨g, 1, none⟩ = some (.int .i64 6122955) := cell_of_row _ _ _ _ _ _ R
      have b0 : (0 : Int) ≤ (k : Int) := by omega
      have b1 : (k : Int) < (n : Int) := by omega
      obtain ⟨b, rfl⟩ := Int.eq_ofNat_of_zero_le x0
      have hstep : crcL reg (xs.take (k + 1)) = crcN r b := by
        rw [crcL_take reg xs k (by omega), HX.out, ← Hr.out, Int.toNat_natCast]
      have HST := Lib.hid hstep
      have e1 : bits .xor .i64 ((r : Int) / 8388608) (b : Int) = ((b ^^^ (r / 8388608) : Nat) : Int) := by
        have h9 := xor_nat (r / 8388608) b (by omega) (by omega)
        rw [show ((r : Int) / 8388608) = ((r / 8388608 : Nat) : Int) by omega, h9, Nat.xor_comm]
      have hlt2 := crcN_lt r b hr1
      have hN : crcN r b = if b ^^^ (r / 8388608) = 1 then ((r % 8388608) * 2) ^^^ 6122955 else (r % 8388608) * 2 := rfl
      clear hstep
      go_upto_region 5 with fail
      go_quiet (fail)
      rw [World.drewN_drewN]
      clear e1
      generalize b ^^^ (r / 8388608) = T at hN ⊢
      by_cases ht : T = 1
      · have q1 : ((T : Int) == 1) = true := by subst ht; rfl
        rw [if_pos ht] at hN
        have e3 : bits .xor .i64 ((r : Int) % 8388608 * 2) 6122955 = ((crcN r b : Nat) : Int) := by
          rw [hN]
          have h9 := xor_nat (r % 8388608 * 2) 6122955 (by omega) (by omega)
          rw [show ((r : Int) % 8388608 * 2) = ((r % 8388608 * 2 : Nat) : Int) by omega]; exact h9
        have E3 := Lib.hid e3
        clear hN e3 ht
        go_wp2
        rw [E3.out]
        go_roundw
        case rel => exact ⟨k + 1, by omega, by go_num, _, hlt2, rfl, Lib.hid HST.out.symm, _, rfl⟩
        case measure => simp [intOf]; omega
      · have q1 : ((T : Int) == 1) = false := by simp; omega
        rw [if_neg ht] at hN
        have e3 : ((r : Int) % 8388608 * 2) = ((crcN r b : Nat) : Int) := by rw [hN]; omega
        have E3 := Lib.hid e3
        clear hN e3 ht
        go_wp2
        rw [E3.out]
        go_roundw
        case rel => exact ⟨k + 1, by omega, by go_num, _, hlt2, rfl, Lib.hid HST.out.symm, _, rfl⟩
        case measure => simp [intOf]; omega
    · have hkn : k = n := by omega
      have hfin : r = crcL reg xs := by rw [Hr.out, List.take_of_length_le (by omega)]
      have HF := Lib.hid hfin
      clear hfin hkn
      go_wp2
      go_ret
      exact ⟨by rw [← HF.out]; rfl, below_drewN bA _⟩
end Go.Proofs.Ytecelofoffdjlaa

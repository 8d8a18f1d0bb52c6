/- A check number in three bytes; the check of a block. -/
import Derived.Test.YtjheanonklgbcaaCrc
import Derived.Test.YtjheanonklgbcaaByts
import Derived.Test.YtjheanonklgbcaaByts2
import Derived.Test.YtjheanonklgbcaaBlkA
namespace Go.Proofs.Ytjheanonklgbcaa
open Go.RowKit
set_option linter.unusedSimpArgs false
set_option linter.unusedVariables false
/-- A number in three bytes. -/
def three (n : Nat) : List Int := [((n / 65536 : Nat) : Int), ((n / 256 % 256 : Nat) : Int), ((n % 256 : Nat) : Int)]
theorem three_inj (n : Nat) (hn : n < 16777216) (a b c : Int) (ha : 0 ≤ a ∧ a ≤ 255) (hb : 0 ≤ b ∧ b ≤ 255) (hc : 0 ≤ c ∧ c ≤ 255) : three n = [a, b, c] ↔ (n : Int) = a * 65536 + b * 256 + c := by
  simp only [three, List.cons.injEq, and_true]
  omega
theorem three_len (n : Nat) : (three n).length = 3 := rfl
theorem three_mem (n : Nat) (h : n < 16777216) : ∀ x ∈ three n, 0 ≤ x ∧ x ≤ 255 := by
  intro x hx
  simp only [three, List.mem_cons, List.not_mem_nil, or_false] at hx
  rcases hx with rfl | rfl | rfl <;> omega
theorem and255 (a : Nat) (h : a < 9223372036854775808) : bits .and .i64 (a : Int) 255 = ((a % 256 : Nat) : Int) := by
  have h9 := and_nat a 255 h (by omega)
  rw [show (255 : Nat) = 2 ^ 8 - 1 by decide, Nat.and_two_pow_sub_one_eq_mod] at h9
  exact h9
theorem i_threeBytes (x : Nat) (w : World) (hx : x < 16777216) : Calls Try.prog 105 #[.int .i64 x] w fun e w' => ∃ u, e = .returned u ∧ IOwn w' w.heap.size u (three x) ∧ Below w.heap.size w w' := by
  have e1 : bits .and .i64 ((x : Int) / 256) 255 = ((x / 256 % 256 : Nat) : Int) := by
    have := and255 (x / 256) (by omega)
    rwa [show ((x / 256 : Nat) : Int) = (x : Int) / 256 by omega] at this
  have e2 := and255 x (by omega)
  have o := lit_own w (three x) w.heap.size (Nat.le_refl _) (by simp [three])
  go_enter Try.func105, Try.ntmps105
  go_wp2
  go_ret
  exact ⟨_, rfl, by simpa [three] using o, (Below.refl _ _).alloc (Nat.le_refl _) _⟩
theorem i_StdCrc (w : World) : Calls Try.prog 106 #[] w fun e w' => e = .returned (.agg #[.int .i64 24, .int .i64 6122955]) ∧ Below w.heap.size w w' := by
  go_enter Try.func106, Try.ntmps106
  go_wp2
  exact bodyPost_ret (v := .agg #[.int .i64 24, .int .i64 6122955]) (by simp [results, Try.results106, go_sem]) rfl ⟨rfl, (Below.refl _ _).alloc (Nat.le_refl _) _⟩
theorem s_StdCrc (w : World) : Calls Try.prog 103 #[] w fun e w' => e = .returned (.agg #[.int .i64 24, .int .i64 6122955]) ∧ Below w.heap.size w w' := by
  go_enter Try.func103, Try.ntmps103
  go_wp2
  exact bodyPost_ret (v := .agg #[.int .i64 24, .int .i64 6122955]) (by simp [results, Try.results103, go_sem]) rfl ⟨rfl, (Below.refl _ _).alloc (Nat.le_refl _) _⟩
/-- The check of the bytes of a block. -/
def regC (k : Nat) (L : List Int) : Nat := crcL (k + 1) (bitsL L)
theorem regC_lt (k : Nat) (L : List Int) (hk : k ≤ 1000000) : regC k L < 16777216 := crcL_lt _ _ (by omega)
theorem getD_mem {L : List Int} {a b : Int} (h : ∀ x ∈ L, a ≤ x ∧ x ≤ b) (k : Nat) (hk : k < L.length) : a ≤ L.getD k 0 ∧ L.getD k 0 ≤ b := by
  rw [List.getD_eq_getElem?_getD, List.getElem?_eq_getElem hk]
  exact h _ (List.getElem_mem hk)
set_option maxHeartbeats 1000000 in
theorem i_blockCheck (k : Nat) (A : Option Addr) (n c : Nat) (L : List Int) (B : Nat) (w : World) (h : IntsAt w B A n c L) (hB : B ≤ w.heap.size) (hb : ∀ x ∈ L, 0 ≤ x ∧ x ≤ 255) (hn : n ≤ 2000) (hk : k ≤ 100000) :
    Calls Try.prog 97 #[.int .i64 (k : Int), .slice A n c] w fun e w' => ∃ u, e = .returned u ∧ IOwn w' w.heap.size u (three (regC k L)) ∧ Below w.heap.size w w' := by
  have hl := h.len
  have hbl := bitsL_len L
  have hg : ∀ j, j < n → 0 ≤ L.getD j 0 ∧ L.getD j 0 ≤ 255 := fun j hj => getD_mem hb j (by omega)
  have hb1 := bitsL_mem L
  have HK := Lib.hid (fun (A' : Option Addr) (c' B' : Nat) (W : World) (hI : IntsAt W B' A' (bitsL L).length c' (bitsL L)) (hB' : B' ≤ W.heap.size) => i_feed (k + 1) A' (bitsL L).length c' (bitsL L) B' W hI hB' (by omega) (fun j _ => hb1.getD j))
  have HT := Lib.hid (fun (W : World) => i_threeBytes (regC k L) W (regC_lt k L (by omega)))
  have hbl2 : (bitsL L).length ≤ 16777216 := by omega
  have HB := Lib.hid (fun (W : World) (hI : IntsAt W B A n c L) (hB : B ≤ W.heap.size) => i_toBits A n c L B W hI hB hg (by omega))
  have e1 : ((k + 1 : Nat) : Int) = (k : Int) + 1 := by omega
  simp only [e1] at HK
  unfold regC at HT
  clear hg hb1 hb hl hbl e1
  unfold regC
  go_enter Try.func97, Try.ntmps97
  go_wp2_with (first
    | (go_at_call 106; refine (i_StdCrc _).mono ?_; rintro e w1 ⟨rfl, b1⟩; have z1 := b1.size; have I1 := h.below' hB b1)
    | (go_at_call 108; refine (HB.out _ I1 (by omega)).mono ?_; rintro e w2 ⟨u2, rfl, o2, b2⟩; have z2 := b2.size; obtain ⟨A2, c2, rfl, I2⟩ := o2.ints hbl2)
    | (go_at_call 107; refine (HK.out _ _ _ _ I2 (Nat.le_refl _)).mono ?_; rintro e w3 ⟨rfl, b3⟩; have z3 := b3.size)
    | (go_at_call 105; refine (HT.out _).mono ?_; rintro e w4 ⟨u4, rfl, o4, b4⟩))
  go_ret
  exact ⟨_, rfl, o4.less (by omega), ((b1.trans (b2.mono (by omega))).trans (b3.mono (by omega))).trans (b4.mono (by omega))⟩
set_option maxHeartbeats 1000000 in
theorem s_l09Check (k : Nat) (A : Option Addr) (n c : Nat) (L : List Int) (B : Nat) (w : World) (h : IntsAt w B A n c L) (hB : B ≤ w.heap.size) (hb : ∀ x ∈ L, 0 ≤ x ∧ x ≤ 255) (hn : n ≤ 2000) (hk : k ≤ 100000) :
    Calls Try.prog 96 #[.int .i64 (k : Int), .slice A n c] w fun e w' => e = .returned (.int .i64 ((regC k L : Nat) : Int)) ∧ Below w.heap.size w w' := by
  have hl := h.len
  have hbl := bitsL_len L
  have hg : ∀ j, j < n → 0 ≤ L.getD j 0 ∧ L.getD j 0 ≤ 255 := fun j hj => getD_mem hb j (by omega)
  have hb1 := bitsL_mem L
  have HK := Lib.hid (fun (A' : Option Addr) (c' B' : Nat) (W : World) (hI : IntsAt W B' A' (bitsL L).length c' (bitsL L)) (hB' : B' ≤ W.heap.size) => s_l02Feed (k + 1) A' (bitsL L).length c' (bitsL L) B' W hI hB' (by omega) (fun j _ => hb1.getD j))
  have hbl2 : (bitsL L).length ≤ 16777216 := by omega
  have HB := Lib.hid (fun (W : World) (hI : IntsAt W B A n c L) (hB : B ≤ W.heap.size) => s_l01Bits A n c L B W hI hB hg (by omega))
  have e1 : ((k + 1 : Nat) : Int) = (k : Int) + 1 := by omega
  simp only [e1] at HK
  clear hg hb1 hb hl hbl e1
  unfold regC
  go_enter Try.func96, Try.ntmps96
  go_wp2_with (first
    | (go_at_call 103; refine (s_StdCrc _).mono ?_; rintro e w1 ⟨rfl, b1⟩; have z1 := b1.size; have I1 := h.below' hB b1)
    | (go_at_call 104; refine (HB.out _ I1 (by omega)).mono ?_; rintro e w2 ⟨u2, rfl, o2, b2⟩; have z2 := b2.size; obtain ⟨A2, c2, rfl, I2⟩ := o2.ints hbl2)
    | (go_at_call 102; refine (HK.out _ _ _ _ I2 (Nat.le_refl _)).mono ?_; rintro e w3 ⟨rfl, b3⟩; have z3 := b3.size))
  go_ret
  exact ⟨rfl, (b1.trans (b2.mono (by omega))).trans (b3.mono (by omega))⟩
end Go.Proofs.Ytjheanonklgbcaa

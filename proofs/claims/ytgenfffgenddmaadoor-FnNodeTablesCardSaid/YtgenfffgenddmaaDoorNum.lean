/- Plain facts on int64's bits: no program in sight. -/
import Derived.WalkKit
import Derived.Laws.BitsAllLaws
import Derived.Laws.BitsLemmas
namespace Go.Proofs.YtgenfffgenddmaaDoor
open Go.RowKit
set_option linter.unusedSimpArgs false
set_option linter.unusedVariables false

theorem bv_nat (a : Nat) (ha : a < 9223372036854775808) : (BitVec.ofInt 64 (a : Int)).toNat = a := by
  rw [BitVec.ofInt_natCast, BitVec.toNat_ofNat]; exact Nat.mod_eq_of_lt (by omega)
theorem and_nat (a b : Nat) (ha : a < 9223372036854775808) (hb : b < 9223372036854775808) : bits .and .i64 (a : Int) (b : Int) = ((a &&& b : Nat) : Int) := by
  have hx : a &&& b < 2 ^ 63 := Nat.and_lt_two_pow _ (by omega)
  show IntKind.i64.wrap ((BitVec.ofInt 64 (a : Int) &&& BitVec.ofInt 64 (b : Int)).toNat : Int) = _
  rw [BitVec.toNat_and, bv_nat a ha, bv_nat b hb, IntKind.wrap_i64]
  omega
theorem or_nat (a b : Nat) (ha : a < 9223372036854775808) (hb : b < 9223372036854775808) : bits .or .i64 (a : Int) (b : Int) = ((a ||| b : Nat) : Int) := by
  have hx : a ||| b < 2 ^ 63 := Nat.or_lt_two_pow (by omega) (by omega)
  show IntKind.i64.wrap ((BitVec.ofInt 64 (a : Int) ||| BitVec.ofInt 64 (b : Int)).toNat : Int) = _
  rw [BitVec.toNat_or, bv_nat a ha, bv_nat b hb, IntKind.wrap_i64]
  omega
theorem xor_nat (a b : Nat) (ha : a < 9223372036854775808) (hb : b < 9223372036854775808) : bits .xor .i64 (a : Int) (b : Int) = ((a ^^^ b : Nat) : Int) := by
  have hx : a ^^^ b < 2 ^ 63 := Nat.xor_lt_two_pow (by omega) (by omega)
  show IntKind.i64.wrap ((BitVec.ofInt 64 (a : Int) ^^^ BitVec.ofInt 64 (b : Int)).toNat : Int) = _
  rw [BitVec.toNat_xor, bv_nat a ha, bv_nat b hb, IntKind.wrap_i64]
  omega

/-- Is node k in the vector m? As the walk writes it. -/
def hasB (m k : Int) : Bool := bits .and .i64 (m / 2 ^ k.toNat) 1 == 1
theorem hasB_nat (m k : Nat) (hm : m < 9223372036854775808) : hasB (m : Int) (k : Int) = m.testBit k := by
  unfold hasB
  rw [Int.toNat_natCast]
  have e : ((m : Int) / 2 ^ k) = ((m / 2 ^ k : Nat) : Int) := by simp
  rw [e, show (1 : Int) = ((1 : Nat) : Int) from rfl, and_nat _ _ (by have := Nat.div_le_self m (2 ^ k); omega) (by omega)]
  rw [Nat.testBit_eq_decide_div_mod_eq, Nat.and_one_is_mod]
  rw [Bool.eq_iff_iff]
  simp only [beq_iff_eq, decide_eq_true_eq]
  omega
theorem or_add (a k : Nat) (h : a < 2 ^ k) : a ||| 2 ^ k = a + 2 ^ k := by
  have h1 := Nat.two_pow_add_eq_or_of_lt h 1
  rw [Nat.mul_one] at h1
  rw [Nat.or_comm, ← h1, Nat.add_comm]
theorem xor_add (a k : Nat) (h : a < 2 ^ k) : a ^^^ 2 ^ k = a + 2 ^ k := by
  rw [← or_add a k h]
  apply Nat.eq_of_testBit_eq
  intro i
  rw [Nat.testBit_xor, Nat.testBit_or, Nat.testBit_two_pow]
  by_cases hi : k = i
  · subst hi; rw [Nat.testBit_lt_two_pow h]; simp
  · simp [hi]
theorem testBit_small (a k : Nat) (h : a < 2 ^ k) : a.testBit k = false := Nat.testBit_lt_two_pow h
theorem pow_le31 (k : Nat) (h : k ≤ 31) : 2 ^ k ≤ 2147483648 := by
  have := Nat.pow_le_pow_right (show 0 < 2 by omega) h
  simpa using this
theorem wrap_pow (k : Nat) (h : k ≤ 31) : wrap64 ((2 : Int) ^ k) = ((2 ^ k : Nat) : Int) := by
  have h1 := pow_le31 k h
  have e : ((2 : Int) ^ k) = ((2 ^ k : Nat) : Int) := by simp
  rw [e]
  generalize (2 : Nat) ^ k = p at h1 ⊢
  exact IntWalk.wrap64_in _ ⟨by omega, by omega⟩
theorem or_pow (a k : Nat) (h : a < 2 ^ k) (hk : k ≤ 31) : bits .or .i64 (a : Int) (wrap64 (2 ^ k)) = ((a + 2 ^ k : Nat) : Int) := by
  have h1 := pow_le31 k hk
  rw [wrap_pow k hk, or_nat a _ (by omega) (by omega), or_add a k h]
theorem xor_pow (a k : Nat) (ha : a < 4294967296) (hk : k ≤ 31) : bits .xor .i64 (a : Int) (wrap64 (2 ^ k)) = ((a ^^^ 2 ^ k : Nat) : Int) := by
  have h1 := pow_le31 k hk
  rw [wrap_pow k hk, xor_nat a _ (by omega) (by omega)]
/-- A vector in which node k is a member or none. -/
def setN (m k : Nat) (b : Bool) : Nat := if m.testBit k = b then m else m ^^^ 2 ^ k
theorem setN_new (a k : Nat) (h : a < 2 ^ k) : setN a k true = a + 2 ^ k := by
  unfold setN; rw [testBit_small a k h]; simp [xor_add a k h]
theorem setN_none (a k : Nat) (h : a < 2 ^ k) : setN a k false = a := by
  unfold setN; rw [testBit_small a k h]; simp
theorem testBit_setN (m k j : Nat) (b : Bool) : (setN m k b).testBit j = if j = k then b else m.testBit j := by
  unfold setN
  by_cases hb : m.testBit k = b
  · rw [if_pos hb]
    by_cases hj : j = k
    · subst hj; rw [if_pos rfl, hb]
    · rw [if_neg hj]
  · rw [if_neg hb, Nat.testBit_xor, Nat.testBit_two_pow]
    by_cases hj : j = k
    · subst hj; rw [if_pos rfl]; cases b <;> cases h : m.testBit j <;> simp_all
    · rw [if_neg hj]; have : ¬ k = j := fun e => hj e.symm
      simp [this]
theorem setN_lt (m k : Nat) (b : Bool) (hm : m < 4294967296) (hk : k ≤ 31) : setN m k b < 4294967296 := by
  unfold setN
  split
  · exact hm
  · have h1 := pow_le31 k hk
    exact Nat.xor_lt_two_pow (n := 32) (by omega) (by omega)
theorem setN_back (m k : Nat) (b : Bool) : setN (setN m k b) k (m.testBit k) = m := by
  apply Nat.eq_of_testBit_eq
  intro j
  rw [testBit_setN, testBit_setN]
  by_cases hj : j = k
  · subst hj; rw [if_pos rfl]
  · rw [if_neg hj, if_neg hj]
theorem setN_same (m k : Nat) : setN m k (m.testBit k) = m := by unfold setN; rw [if_pos rfl]
theorem or_set (m k : Nat) (hm : m < 4294967296) (hk : k ≤ 31) : bits .or .i64 (m : Int) (wrap64 (2 ^ k)) = ((setN m k true : Nat) : Int) := by
  have h1 := pow_le31 k hk
  rw [wrap_pow k hk, or_nat m _ (by omega) (by omega)]
  congr 1
  apply Nat.eq_of_testBit_eq
  intro j
  rw [testBit_setN, Nat.testBit_or, Nat.testBit_two_pow]
  by_cases hj : j = k
  · subst hj; simp
  · have : ¬ k = j := fun e => hj e.symm
    simp [hj, this]
theorem andNot_set (m k : Nat) (hm : m < 4294967296) (hk : k ≤ 31) : bits .andNot .i64 (m : Int) (wrap64 (2 ^ k)) = ((setN m k false : Nat) : Int) := by
  have h1 := pow_le31 k hk
  have hlt := setN_lt m k false hm hk
  rw [wrap_pow k hk]
  show IntKind.i64.wrap ((BitVec.ofInt 64 (m : Int) &&& ~~~ BitVec.ofInt 64 ((2 ^ k : Nat) : Int)).toNat : Int) = _
  have e : (BitVec.ofInt 64 (m : Int) &&& ~~~ BitVec.ofInt 64 ((2 ^ k : Nat) : Int)).toNat = setN m k false := by
    apply Nat.eq_of_testBit_eq
    intro j
    have hb : (BitVec.ofInt 64 ((2 ^ k : Nat) : Int)).toNat = 2 ^ k := bv_nat _ (by omega)
    rw [BitVec.toNat_and, BitVec.toNat_not, bv_nat m (by omega), hb, Nat.testBit_and, testBit_setN]
    have h64 : 2 ^ 64 - 1 - 2 ^ k = 2 ^ 64 - (2 ^ k + 1) := by omega
    rw [h64, Nat.testBit_two_pow_sub_succ (by omega), Nat.testBit_two_pow]
    by_cases hj : j = k
    · subst hj; simp
    · have : ¬ k = j := fun e => hj e.symm
      by_cases hj64 : j < 64
      · simp [hj, this, hj64]
      · have : m.testBit j = false := Nat.testBit_lt_two_pow (Nat.lt_of_lt_of_le hm (Nat.le_trans (by decide : 4294967296 ≤ 2 ^ 64) (Nat.pow_le_pow_right (by omega) (by omega))))
        simp [hj, this]
  rw [e, IntKind.wrap_i64]
  omega
end Go.Proofs.YtgenfffgenddmaaDoor

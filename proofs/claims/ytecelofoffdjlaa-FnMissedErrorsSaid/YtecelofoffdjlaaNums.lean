/- Numbers out of bits, bytes out of bits, bits out of bytes: plain lists. -/
import Derived.Test.YtecelofoffdjlaaBits
namespace Go.Proofs.Ytecelofoffdjlaa
open Go.RowKit
/-- The number with some bits. -/
def numL (xs : List Int) : Nat := xs.foldl (fun n b => 2 * n + b.toNat) 0
theorem numL_take (xs : List Int) (k : Nat) (h : k < xs.length) : numL (xs.take (k + 1)) = 2 * numL (xs.take k) + (xs.getD k 0).toNat := by
  rw [take_succ_getD xs k h]
  unfold numL
  rw [List.foldl_append]
  rfl
theorem numL_snoc (xs : List Int) (b : Int) : numL (xs ++ [b]) = 2 * numL xs + b.toNat := by
  unfold numL
  rw [List.foldl_append]
  rfl
def bit01 (xs : List Int) : Prop := ∀ x ∈ xs, 0 ≤ x ∧ x ≤ 1
theorem bit01.getD {xs : List Int} (h : bit01 xs) (k : Nat) : 0 ≤ xs.getD k 0 ∧ xs.getD k 0 ≤ 1 := by
  by_cases hk : k < xs.length
  · rw [List.getD_eq_getElem?_getD, List.getElem?_eq_getElem hk]
    exact h _ (List.getElem_mem hk)
  · rw [List.getD_eq_getElem?_getD, List.getElem?_eq_none (by omega)]
    exact ⟨Int.le_refl _, by decide⟩
theorem bit01.take {xs : List Int} (h : bit01 xs) (k : Nat) : bit01 (xs.take k) := fun x hx => h x (List.mem_of_mem_take hx)
theorem bit01.drop {xs : List Int} (h : bit01 xs) (k : Nat) : bit01 (xs.drop k) := fun x hx => h x (List.mem_of_mem_drop hx)
theorem numL_foldl_lt (xs : List Int) (h : bit01 xs) : ∀ n k : Nat, n < 2 ^ k → xs.foldl (fun n b => 2 * n + b.toNat) n < 2 ^ (k + xs.length) := by
  induction xs with
  | nil => intro n k hn; simpa using hn
  | cons x xs ih =>
    intro n k hn
    have hx := h x (List.mem_cons_self ..)
    have hs : bit01 xs := fun y hy => h y (List.mem_cons_of_mem _ hy)
    have := ih hs (2 * n + x.toNat) (k + 1) (by rw [Nat.pow_succ]; omega)
    simp only [List.foldl_cons, List.length_cons]
    rw [show k + (xs.length + 1) = k + 1 + xs.length by omega]
    exact this
theorem numL_lt (xs : List Int) (h : bit01 xs) : numL xs < 2 ^ xs.length := by
  have := numL_foldl_lt xs h 0 0 (by decide)
  simpa [numL] using this
theorem numL_lt' (xs : List Int) (h : bit01 xs) (m : Nat) (hm : xs.length ≤ m) : numL xs < 2 ^ m := Nat.lt_of_lt_of_le (numL_lt xs h) (Nat.pow_le_pow_right (by decide) hm)
/-- The bytes of 8 * m bits. -/
def bytesN (xs : List Int) (m : Nat) : List Int := (List.range m).map fun k => ((numL ((xs.drop (8 * k)).take 8) : Nat) : Int)
theorem bytesN_succ (xs : List Int) (m : Nat) : bytesN xs (m + 1) = bytesN xs m ++ [((numL ((xs.drop (8 * m)).take 8) : Nat) : Int)] := by simp [bytesN, List.range_succ]
theorem bytesN_len (xs : List Int) (m : Nat) : (bytesN xs m).length = m := by simp [bytesN]
theorem bytesN_mem (xs : List Int) (h : bit01 xs) (m : Nat) : ∀ x ∈ bytesN xs m, 0 ≤ x ∧ x ≤ 255 := by
  intro x hx
  simp only [bytesN, List.mem_map, List.mem_range] at hx
  obtain ⟨k, -, rfl⟩ := hx
  have := numL_lt' ((xs.drop (8 * k)).take 8) ((h.drop _).take _) 8 (by simp; omega)
  omega
/-- The bits of bytes. -/
def bitsL : List Int → List Int
  | [] => []
  | x :: xs => bitsN x.toNat 8 ++ bitsL xs
theorem bitsL_append (xs ys : List Int) : bitsL (xs ++ ys) = bitsL xs ++ bitsL ys := by
  induction xs with
  | nil => rfl
  | cons x xs ih => simp [bitsL, ih]
theorem bitsL_len (xs : List Int) : (bitsL xs).length = 8 * xs.length := by
  induction xs with
  | nil => rfl
  | cons x xs ih => simp [bitsL, ih, bitsN_len]; omega
theorem bitsL_mem (xs : List Int) : bit01 (bitsL xs) := by
  induction xs with
  | nil => intro x hx; cases hx
  | cons x xs ih =>
    intro y hy
    simp only [bitsL, List.mem_append] at hy
    rcases hy with h | h
    · exact bitsN_mem _ _ y h
    · exact ih y h
theorem bitsL_take (xs : List Int) (k : Nat) (h : k < xs.length) : bitsL (xs.take (k + 1)) = bitsL (xs.take k) ++ bitsN (xs.getD k 0).toNat 8 := by
  rw [take_succ_getD xs k h, bitsL_append]
  simp [bitsL]
/-- A number out of its bits. -/
theorem numL_foldl_bits (v K : Nat) : ∀ n : Nat, (bitsN v K).foldl (fun n b => 2 * n + b.toNat) n = n * 2 ^ K + v % 2 ^ K := by
  induction K with
  | zero => intro n; simp [bitsN, Nat.mod_one]
  | succ k ih =>
    intro n
    simp only [bitsN, List.foldl_cons, Int.toNat_natCast]
    rw [ih]
    have h1 : v % 2 ^ (k + 1) = 2 ^ k * (v / 2 ^ k % 2) + v % 2 ^ k := by
      rw [Nat.pow_succ, Nat.mod_mul, Nat.add_comm]
    rw [h1, Nat.add_mul, Nat.pow_succ, Nat.mul_comm (2 ^ k) (v / 2 ^ k % 2)]
    have h2 : 2 * n * 2 ^ k = n * (2 ^ k * 2) := by rw [Nat.mul_comm 2 n, Nat.mul_assoc, Nat.mul_comm 2 (2 ^ k)]
    omega
theorem numL_bitsN (v K : Nat) (h : v < 2 ^ K) : numL (bitsN v K) = v := by
  unfold numL
  rw [numL_foldl_bits, Nat.zero_mul, Nat.zero_add, Nat.mod_eq_of_lt h]
/-- Bits out of their number. -/
theorem bitsN_append (v j k : Nat) : bitsN v (j + k) = bitsN (v / 2 ^ k) j ++ bitsN v k := by
  induction j with
  | zero => simp [bitsN]
  | succ j ih =>
    rw [show j + 1 + k = (j + k) + 1 by omega]
    simp only [bitsN, List.cons_append]
    rw [ih, Nat.div_div_eq_div_mul, ← Nat.pow_add, Nat.add_comm k j]
theorem bitsN_numL (xs : List Int) (h : bit01 xs) : bitsN (numL xs) xs.length = xs := by
  obtain ⟨n, hn⟩ : ∃ n, xs.length = n := ⟨_, rfl⟩
  induction n generalizing xs with
  | zero => rw [List.length_eq_zero_iff.1 hn]; rfl
  | succ n ih =>
    obtain ⟨ys, b, rfl⟩ : ∃ ys b, xs = ys ++ [b] := ⟨xs.dropLast, xs.getLast (by intro e; rw [e] at hn; simp at hn), (List.dropLast_concat_getLast _).symm⟩
    have hy : ys.length = n := by simpa using hn
    have hys : bit01 ys := fun x hx => h x (by simp [hx])
    have hb := h b (by simp)
    rw [numL_snoc, List.length_append, List.length_singleton, bitsN_append, Nat.pow_one, show (2 * numL ys + b.toNat) / 2 = numL ys by omega, ih ys hys hy]
    have e2 : (2 * numL ys + b.toNat) % 2 = b.toNat := by omega
    simp [bitsN, e2]
    omega
end Go.Proofs.Ytecelofoffdjlaa

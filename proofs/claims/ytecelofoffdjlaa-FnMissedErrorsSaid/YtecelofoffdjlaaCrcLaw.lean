/- The code finds one to three wrong bits: plain lists. -/
import Derived.Test.YtecelofoffdjlaaNums
import Derived.Test.YtecelofoffdjlaaCrc
namespace Go.Proofs.Ytecelofoffdjlaa
open Go.RowKit
set_option linter.unusedSimpArgs false
set_option linter.unusedVariables false
/-- The step without the bit. -/
def upN (r : Nat) : Nat := (r % 8388608) * 2
theorem crcN_eq (r b : Nat) : crcN r b = upN r ^^^ (if b ^^^ (r / 8388608) = 1 then 6122955 else 0) := by
  unfold crcN upN
  split
  · rfl
  · rw [Nat.xor_zero]
theorem mul_two_xor (a b : Nat) : (a ^^^ b) * 2 = (a * 2) ^^^ (b * 2) := by
  have := Nat.shiftLeft_xor_distrib (a := a) (b := b) (i := 1)
  simpa [Nat.shiftLeft_eq] using this
theorem upN_xor (r r' : Nat) : upN (r ^^^ r') = upN r ^^^ upN r' := by
  unfold upN
  rw [show (8388608 : Nat) = 2 ^ 23 by decide, Nat.xor_mod_two_pow, mul_two_xor]
theorem top_xor (r r' : Nat) : (r ^^^ r') / 8388608 = (r / 8388608) ^^^ (r' / 8388608) := by
  rw [show (8388608 : Nat) = 2 ^ 23 by decide, Nat.xor_div_two_pow]
theorem bit_cases {t : Nat} (h : t ≤ 1) : t = 0 ∨ t = 1 := by omega
theorem xor_bits {a b : Nat} (ha : a ≤ 1) (hb : b ≤ 1) : a ^^^ b ≤ 1 := by
  rcases bit_cases ha with rfl | rfl <;> rcases bit_cases hb with rfl | rfl <;> decide
theorem crcN_xor (r r' b b' : Nat) (hr : r < 16777216) (hr' : r' < 16777216) (hb : b ≤ 1) (hb' : b' ≤ 1) : crcN (r ^^^ r') (b ^^^ b') = crcN r b ^^^ crcN r' b' := by
  have ht : r / 8388608 ≤ 1 := by omega
  have ht' : r' / 8388608 ≤ 1 := by omega
  rw [crcN_eq, crcN_eq, crcN_eq, upN_xor, top_xor]
  generalize r / 8388608 = t at *
  generalize r' / 8388608 = t' at *
  generalize upN r = U
  generalize upN r' = U'
  have e : (b ^^^ b') ^^^ (t ^^^ t') = (b ^^^ t) ^^^ (b' ^^^ t') := by
    rw [Nat.xor_assoc, Nat.xor_assoc, ← Nat.xor_assoc b' t t', Nat.xor_comm b' t, Nat.xor_assoc]
  rw [e]
  have hx := xor_bits hb ht
  have hx' := xor_bits hb' ht'
  generalize b ^^^ t = x at *
  generalize b' ^^^ t' = x' at *
  rcases bit_cases hx with rfl | rfl <;> rcases bit_cases hx' with rfl | rfl <;> simp [Nat.xor_assoc]
  · rw [Nat.xor_comm 6122955 U']
  · rw [Nat.xor_comm U' 6122955, ← Nat.xor_assoc 6122955 6122955 U', Nat.xor_self, Nat.zero_xor]
/-- Where two lists of bits differ, as bits. -/
def xorL : List Int → List Int → List Int
  | x :: xs, y :: ys => ((x.toNat ^^^ y.toNat : Nat) : Int) :: xorL xs ys
  | _, _ => []
theorem bit01.toNat {x : Int} {xs : List Int} (h : bit01 (x :: xs)) : x.toNat ≤ 1 := by have := h x (List.mem_cons_self ..); omega
theorem bit01.tail {x : Int} {xs : List Int} (h : bit01 (x :: xs)) : bit01 xs := fun y hy => h y (List.mem_cons_of_mem _ hy)
theorem crcL_xor : ∀ (xs ys : List Int) (r r' : Nat), xs.length = ys.length → bit01 xs → bit01 ys → r < 16777216 → r' < 16777216 → crcL (r ^^^ r') (xorL xs ys) = crcL r xs ^^^ crcL r' ys
  | [], [], _, _, _, _, _, _, _ => rfl
  | x :: xs, y :: ys, r, r', hl, hx, hy, hr, hr' => by
    show crcL (crcN (r ^^^ r') ((x.toNat ^^^ y.toNat : Nat) : Int).toNat) (xorL xs ys) = crcL (crcN r x.toNat) xs ^^^ crcL (crcN r' y.toNat) ys
    rw [Int.toNat_natCast, crcN_xor r r' _ _ hr hr' hx.toNat hy.toNat]
    exact crcL_xor xs ys _ _ (by simpa using hl) hx.tail hy.tail (crcN_lt _ _ hr) (crcN_lt _ _ hr')
  | [], _ :: _, _, _, hl, _, _, _, _ => by simp at hl
  | _ :: _, [], _, _, hl, _, _, _, _ => by simp at hl
theorem crcL_append (r : Nat) (xs ys : List Int) : crcL r (xs ++ ys) = crcL (crcL r xs) ys := by simp [crcL, List.foldl_append]
/-- A register that is fed with itself is 0. -/
theorem crcL_self (v : Nat) : ∀ K : Nat, K ≤ 24 → crcL ((v % 2 ^ K) * 2 ^ (24 - K)) (bitsN v K) = 0
  | 0, _ => by simp [bitsN, crcL, Nat.mod_one]
  | k + 1, h => by
    show crcL (crcN ((v % 2 ^ (k + 1)) * 2 ^ (24 - (k + 1))) ((v / 2 ^ k % 2 : Nat) : Int).toNat) (bitsN v k) = 0
    rw [← crcL_self v k (by omega), Int.toNat_natCast]
    congr 1
    have h1 : v % 2 ^ (k + 1) = 2 ^ k * (v / 2 ^ k % 2) + v % 2 ^ k := by rw [Nat.pow_succ, Nat.mod_mul, Nat.add_comm]
    have h2 : 2 ^ k * 2 ^ (24 - (k + 1)) = 8388608 := by rw [← Nat.pow_add, show k + (24 - (k + 1)) = 23 by omega]
    have h3 : 2 ^ (24 - k) = 2 ^ (24 - (k + 1)) * 2 := by rw [show 24 - k = (24 - (k + 1)) + 1 by omega, Nat.pow_succ]
    have h4 : v % 2 ^ k < 2 ^ k := Nat.mod_lt _ (Nat.two_pow_pos k)
    have h6 : (v % 2 ^ k) * 2 ^ (24 - (k + 1)) < 8388608 := by
      rw [← h2]; exact Nat.mul_lt_mul_of_pos_right h4 (Nat.two_pow_pos _)
    have h5 : v % 2 ^ (k + 1) * 2 ^ (24 - (k + 1)) = 8388608 * (v / 2 ^ k % 2) + v % 2 ^ k * 2 ^ (24 - (k + 1)) := by
      rw [h1, Nat.add_mul, ← h2, Nat.mul_right_comm]
    have h7 : v / 2 ^ k % 2 ≤ 1 := by omega
    have h8 : v % 2 ^ k * 2 ^ (24 - k) = (v % 2 ^ k * 2 ^ (24 - (k + 1))) * 2 := by rw [h3, Nat.mul_assoc]
    rw [h5, h8]
    generalize v % 2 ^ k * 2 ^ (24 - (k + 1)) = y at h6 ⊢
    generalize v / 2 ^ k % 2 = b at h7 ⊢
    rw [crcN_eq, show (8388608 * b + y) / 8388608 = b by omega, Nat.xor_self]
    simp [upN]
    omega
theorem crcL_own (c : Nat) (h : c < 16777216) : crcL c (bitsN c 24) = 0 := by
  have := crcL_self c 24 (Nat.le_refl _)
  rwa [Nat.mod_eq_of_lt (by omega), Nat.sub_self, Nat.pow_zero, Nat.mul_one] at this
/-- How many ones. -/
def wt : List Int → Nat
  | [] => 0
  | x :: xs => x.toNat + wt xs
/-- The parity of the lowest k bits. -/
def pB : Nat → Nat → Nat
  | 0, _ => 0
  | k + 1, r => (r % 2) ^^^ pB k (r / 2)
theorem pB_le : ∀ k r : Nat, pB k r ≤ 1
  | 0, _ => Nat.zero_le _
  | k + 1, r => xor_bits (by omega) (pB_le k _)
theorem pB_xor : ∀ k r r' : Nat, pB k (r ^^^ r') = pB k r ^^^ pB k r'
  | 0, _, _ => by simp [pB]
  | k + 1, r, r' => by
    have h1 : (r ^^^ r') % 2 = (r % 2) ^^^ (r' % 2) := Nat.xor_mod_two_pow (n := 1)
    have h2 : (r ^^^ r') / 2 = (r / 2) ^^^ (r' / 2) := Nat.xor_div_two_pow (n := 1)
    show (r ^^^ r') % 2 ^^^ pB k ((r ^^^ r') / 2) = ((r % 2) ^^^ pB k (r / 2)) ^^^ ((r' % 2) ^^^ pB k (r' / 2))
    rw [h1, h2, pB_xor k]
    rw [Nat.xor_assoc, Nat.xor_assoc, ← Nat.xor_assoc (r' % 2), Nat.xor_comm (r' % 2) (pB k (r / 2)), Nat.xor_assoc]
theorem pB_top : ∀ k r : Nat, pB (k + 1) r = pB k r ^^^ (r / 2 ^ k % 2)
  | 0, r => by simp [pB]
  | k + 1, r => by
    show (r % 2) ^^^ pB (k + 1) (r / 2) = ((r % 2) ^^^ pB k (r / 2)) ^^^ (r / 2 ^ (k + 1) % 2)
    rw [pB_top k, Nat.div_div_eq_div_mul, show 2 * 2 ^ k = 2 ^ (k + 1) by rw [Nat.pow_succ, Nat.mul_comm], Nat.xor_assoc]
theorem pB_mod : ∀ k r : Nat, pB k (r % 2 ^ k) = pB k r
  | 0, _ => rfl
  | k + 1, r => by
    have h1 : r % 2 ^ (k + 1) % 2 = r % 2 := Nat.mod_mod_of_dvd _ ⟨2 ^ k, by rw [Nat.pow_succ, Nat.mul_comm]⟩
    have h2 : r % 2 ^ (k + 1) / 2 = r / 2 % 2 ^ k := by rw [Nat.pow_succ, Nat.mul_comm, Nat.mod_mul_right_div_self]
    show (r % 2 ^ (k + 1) % 2) ^^^ pB k (r % 2 ^ (k + 1) / 2) = (r % 2) ^^^ pB k (r / 2)
    rw [h1, h2, pB_mod k]
theorem pB_up (r : Nat) : pB 24 (upN r) = pB 23 r := by
  show (upN r % 2) ^^^ pB 23 (upN r / 2) = _
  have h1 : upN r % 2 = 0 := by unfold upN; omega
  have h2 : upN r / 2 = r % 2 ^ 23 := by unfold upN; omega
  rw [h1, h2, pB_mod, Nat.zero_xor]
theorem pB_crcN (r b : Nat) (hr : r < 16777216) (hb : b ≤ 1) : pB 24 (crcN r b) = pB 24 r ^^^ b := by
  have ht : r / 8388608 ≤ 1 := by omega
  have hx := xor_bits hb ht
  have e : pB 24 (if b ^^^ (r / 8388608) = 1 then 6122955 else 0) = b ^^^ (r / 8388608) := by
    rcases bit_cases hx with h | h <;> rw [h] <;> decide
  rw [crcN_eq, pB_xor, pB_up, e, pB_top 23, show (2 ^ 23 : Nat) = 8388608 by decide, Nat.mod_eq_of_lt (show r / 8388608 < 2 by omega), Nat.xor_assoc, Nat.xor_comm b]
theorem pB_crcL : ∀ (xs : List Int) (r : Nat), r < 16777216 → bit01 xs → pB 24 (crcL r xs) = pB 24 r ^^^ (wt xs % 2)
  | [], r, _, _ => by simp [wt, crcL]
  | x :: xs, r, hr, hx => by
    show pB 24 (crcL (crcN r x.toNat) xs) = _
    rw [pB_crcL xs _ (crcN_lt _ _ hr) hx.tail, pB_crcN r _ hr hx.toNat, Nat.xor_assoc]
    congr 1
    have h1 := hx.toNat
    have h2 : wt xs % 2 ≤ 1 := by omega
    show _ = (x.toNat + wt xs) % 2
    rw [Nat.add_mod, Nat.mod_eq_of_lt (show x.toNat < 2 by omega)]
    rcases bit_cases h1 with h | h <;> rcases bit_cases h2 with h' | h' <;> rw [h, h'] <;> decide
/-- The code's own register under shifts. -/
def orb : Nat → Nat
  | 0 => 6122955
  | k + 1 => crcN (orb k) 0
theorem orb_lt : ∀ k, orb k < 16777216
  | 0 => by decide
  | k + 1 => crcN_lt _ _ (orb_lt k)
def orbOk : Nat → Nat → Bool
  | 0, _ => true
  | n + 1, r => (crcN r 0 != 6122955) && orbOk n (crcN r 0)
theorem orbOk_at : ∀ (n i j : Nat), orbOk n (orb i) = true → j < n → orb (i + j + 1) ≠ 6122955
  | 0, _, _, _, h => absurd h (by omega)
  | n + 1, i, j, h, hj => by
    have h' : crcN (orb i) 0 ≠ 6122955 ∧ orbOk n (crcN (orb i) 0) = true := by simpa [orbOk] using h
    rcases j with _ | j
    · exact h'.1
    · have := orbOk_at n (i + 1) j h'.2 (by omega)
      rwa [show i + 1 + j + 1 = i + (j + 1) + 1 by omega] at this
theorem orb_all : orbOk 1000 6122955 = true := by decide +kernel
theorem orb_ne (k : Nat) (h0 : 0 < k) (h : k ≤ 1000) : orb k ≠ 6122955 := by
  have := orbOk_at 1000 0 (k - 1) orb_all (by omega)
  rwa [show 0 + (k - 1) + 1 = k by omega] at this
theorem wt_zero : ∀ (xs : List Int), bit01 xs → wt xs = 0 → ∀ x ∈ xs, x = 0
  | [], _, _, _, h => by cases h
  | x :: xs, hb, h, y, hy => by
    have h0 : x.toNat + wt xs = 0 := h
    have := hb x (List.mem_cons_self ..)
    rcases List.mem_cons.1 hy with rfl | hy
    · omega
    · exact wt_zero xs hb.tail (by omega) y hy
theorem crc_zeros : ∀ (xs : List Int) (r : Nat), bit01 xs → r ≠ 0 → r < 16777216 → wt xs = 0 → crcL r xs ≠ 0
  | [], r, _, h, _, _ => h
  | x :: xs, r, hb, h, hr, hw => by
    have h0 : x.toNat + wt xs = 0 := hw
    have hx : x.toNat = 0 := by omega
    show crcL (crcN r x.toNat) xs ≠ 0
    refine crc_zeros xs _ hb.tail ?_ (crcN_lt _ _ hr) (by omega)
    rw [hx, crcN_eq, Nat.zero_xor]
    unfold upN
    split
    · intro e
      have := congrArg (fun n => n % 2) e
      have h1 : ((r % 8388608) * 2 ^^^ 6122955) % 2 = ((r % 8388608) * 2 % 2) ^^^ (6122955 % 2) := Nat.xor_mod_two_pow (n := 1)
      simp only [h1, Nat.mul_mod_left] at this
      exact absurd this (by decide)
    · rw [Nat.xor_zero]; omega
theorem crc_one : ∀ (xs : List Int) (i : Nat), bit01 xs → wt xs = 1 → i + xs.length ≤ 1000 → crcL (orb i) xs ≠ 0
  | [], _, _, h, _ => by cases h
  | x :: xs, i, hb, hw, hl => by
    have h0 : x.toNat + wt xs = 1 := hw
    have hl' : i + (xs.length + 1) ≤ 1000 := hl
    show crcL (crcN (orb i) x.toNat) xs ≠ 0
    rcases bit_cases hb.toNat with hx | hx
    · rw [hx]
      exact crc_one xs (i + 1) hb.tail (by omega) (by omega)
    · rw [hx]
      refine crc_zeros xs _ hb.tail ?_ (crcN_lt _ _ (orb_lt _)) (by omega)
      intro e
      have h1 : crcN (orb i ^^^ 0) (0 ^^^ 1) = crcN (orb i) 0 ^^^ crcN 0 1 := crcN_xor _ _ _ _ (orb_lt i) (by omega) (by omega) (by omega)
      rw [Nat.xor_zero, Nat.zero_xor, e] at h1
      have h2 : crcN 0 1 = 6122955 := by decide
      rw [h2] at h1
      have h3 : crcN (orb i) 0 = 6122955 := by
        have := congrArg (fun n => n ^^^ 6122955) h1
        simp only [Nat.xor_assoc, Nat.xor_self, Nat.zero_xor, Nat.xor_zero] at this
        exact this.symm
      exact orb_ne (i + 1) (by omega) (by omega) h3
theorem crc_two : ∀ (xs : List Int), bit01 xs → wt xs = 1 ∨ wt xs = 2 → xs.length ≤ 1000 → crcL 0 xs ≠ 0
  | [], _, h, _ => by rcases h with h | h <;> cases h
  | x :: xs, hb, hw, hl => by
    have h0 : x.toNat + wt xs = 1 ∨ x.toNat + wt xs = 2 := hw
    have hl' : xs.length + 1 ≤ 1000 := hl
    show crcL (crcN 0 x.toNat) xs ≠ 0
    rcases bit_cases hb.toNat with hx | hx
    · rw [hx]
      exact crc_two xs hb.tail (by omega) (by omega)
    · rw [hx, show crcN 0 1 = orb 0 by decide]
      rcases h0 with h0 | h0
      · exact crc_zeros xs _ hb.tail (by decide) (by decide) (by omega)
      · exact crc_one xs 0 hb.tail (by omega) (by omega)
/-- One to three ones are found. -/
theorem crc_found (xs : List Int) (hb : bit01 xs) (hl : xs.length ≤ 1000) (h1 : 1 ≤ wt xs) (h3 : wt xs ≤ 3) : crcL 0 xs ≠ 0 := by
  by_cases h : wt xs = 3
  · intro e
    have := pB_crcL xs 0 (by decide) hb
    rw [e, h] at this
    exact absurd this (by decide)
  · exact crc_two xs hb (by omega) hl
theorem crc_none : ∀ (xs : List Int), bit01 xs → wt xs = 0 → crcL 0 xs = 0
  | [], _, _ => rfl
  | x :: xs, hb, hw => by
    have h0 : x.toNat + wt xs = 0 := hw
    show crcL (crcN 0 x.toNat) xs = 0
    rw [show x.toNat = 0 by omega, show crcN 0 0 = 0 by decide]
    exact crc_none xs hb.tail (by omega)
end Go.Proofs.Ytecelofoffdjlaa

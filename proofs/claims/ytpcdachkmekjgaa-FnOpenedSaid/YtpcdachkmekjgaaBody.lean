/- The body of a frame, its check number, the frame out of a body: plain lists. -/
import Derived.Test.YtpcdachkmekjgaaNums
import Derived.Test.YtpcdachkmekjgaaBits4
import Derived.Test.YtpcdachkmekjgaaCrc
import Derived.Test.YtpcdachkmekjgaaFrm
namespace Go.Proofs.Ytpcdachkmekjgaa
open Go.RowKit
set_option linter.unusedSimpArgs false
set_option linter.unusedVariables false
/-- The body of a frame. -/
def bodyL (k q t m r s v : Int) (xs : List Int) : List Int :=
  (k * 64 + q * 8) :: ((if k = 0 then [] else bytesN (stBits t.toNat m.toNat r.toNat s.toNat v.toNat) 8) ++ (if k = 0 ∨ k = 2 then (xs.length : Int) :: xs else []))
/-- The check number of a body. -/
def chkN (k : Int) (body : List Int) (id : Nat) (t m r s v : Int) : Nat :=
  crcL (if k = 0 then crcL id (stBits t.toNat m.toNat r.toNat s.toNat v.toNat) else id) (bitsL body)
theorem chkN_lt (k : Int) (body : List Int) (id : Nat) (t m r s v : Int) (h : id < 16777216) : chkN k body id t m r s v < 16777216 := by
  unfold chkN
  apply crcL_lt
  split
  · exact crcL_lt _ _ h
  · exact h
/-- A number in three bytes. -/
def three (n : Nat) : List Int := [((n / 65536 : Nat) : Int), ((n / 256 % 256 : Nat) : Int), ((n % 256 : Nat) : Int)]
theorem three_inj (n : Nat) (hn : n < 16777216) (a b c : Int) (ha : 0 ≤ a ∧ a ≤ 255) (hb : 0 ≤ b ∧ b ≤ 255) (hc : 0 ≤ c ∧ c ≤ 255) : three n = [a, b, c] ↔ (n : Int) = a * 65536 + b * 256 + c := by
  simp only [three, List.cons.injEq, and_true]
  omega
/-- What a list says of a frame. -/
def hdK (l : List Int) : Int := l.getD 0 0 / 64
def hdQ (l : List Int) : Int := l.getD 0 0 / 8 % 8
def stF (l : List Int) (a n : Nat) : Int := if hdK l = 0 then 0 else ((numL (((bitsL ((l.drop 1).take 8)).drop a).take n) : Nat) : Int)
def hdD (l : List Int) : List Int := if hdK l = 0 then l.drop 2 else if hdK l = 2 then l.drop 10 else []
def fbOk (l : List Int) : Bool := decide (l ≠ []) && (decide (hdK l = 0) || decide (9 ≤ l.length)) && frOk (hdK l) (hdQ l) (stF l 0 16) (stF l 16 4) (stF l 20 4) (stF l 24 8) (stF l 32 32) (hdD l) &&
  eqL (bodyL (hdK l) (hdQ l) (stF l 0 16) (stF l 16 4) (stF l 20 4) (stF l 24 8) (stF l 32 32) (hdD l)) l
/-- Without a number of data there is no frame. -/
theorem fbOk_short (l : List Int) (h : (hdK l = 0 ∧ l.length ≤ 1) ∨ (hdK l = 2 ∧ l.length ≤ 9)) : fbOk l = false := by
  rw [Bool.eq_false_iff]
  intro hf
  simp only [fbOk, Bool.and_eq_true] at hf
  obtain ⟨⟨⟨h1, h2⟩, h3⟩, h4⟩ := hf
  rcases h with ⟨hk, hl⟩ | ⟨hk, hl⟩
  · have e := congrArg List.length (of_decide_eq_true h4)
    have hd : hdD l = [] := by simp [hdD, hk]; omega
    rw [hd, hk] at e
    simp [bodyL] at e
    omega
  · have hd : hdD l = [] := by simp [hdD, hk]; omega
    rw [hd, hk] at h3
    simp [frOk, sizeOk] at h3
theorem take_ge {xs : List Int} {n : Nat} (h : xs.length ≤ n) : xs.take n = xs := List.take_of_length_le h
theorem bodyL_len (k q t m r s v : Int) (xs : List Int) : (bodyL k q t m r s v xs).length = 1 + (if k = 0 then 0 else 8) + (if k = 0 ∨ k = 2 then 1 + xs.length else 0) := by
  unfold bodyL
  by_cases h0 : k = 0
  · simp [h0]; omega
  · by_cases h2 : k = 2
    · simp [h2, bytesN_len]; omega
    · simp [h0, h2, bytesN_len]
theorem bodyL_mem (k q t m r s v : Int) (xs : List Int) (h : frOk k q t m r s v xs = true) : ∀ x ∈ bodyL k q t m r s v xs, 0 ≤ x ∧ x ≤ 255 := by
  simp only [frOk, Bool.and_eq_true, decide_eq_true_eq] at h
  obtain ⟨⟨⟨⟨hk, hq⟩, hz⟩, hb⟩, -⟩ := h
  have hl := bytesOk_len hb
  intro x hx
  simp only [bodyL, List.mem_cons, List.mem_append] at hx
  rcases hx with rfl | hx | hx
  · omega
  · split at hx
    · cases hx
    · exact bytesN_mem _ (stBits_mem _ _ _ _ _) _ x hx
  · split at hx
    · rename_i h9
      rcases List.mem_cons.1 hx with rfl | hx
      · have : xs.length ≤ 255 := by
          rcases h9 with h9 | h9 <;> simp [sizeOk, h9] at hz <;> omega
        omega
      · obtain ⟨i, hi, rfl⟩ := List.getElem_of_mem hx
        have := bytesOk_at hb i hi
        rw [List.getD_eq_getElem?_getD, List.getElem?_eq_getElem hi] at this
        exact this
    · cases hx
theorem bitsL_bytesN (xs : List Int) (h : bit01 xs) (m : Nat) (hl : 8 * m ≤ xs.length) : bitsL (bytesN xs m) = xs.take (8 * m) := by
  induction m with
  | zero => simp [bytesN, bitsL]
  | succ m ih =>
    rw [bytesN_succ, bitsL_append, ih (by omega), show 8 * (m + 1) = 8 * m + 8 by omega, List.take_add]
    congr 1
    have hc : ((xs.drop (8 * m)).take 8).length = 8 := by simp; omega
    have := bitsN_numL ((xs.drop (8 * m)).take 8) ((h.drop _).take _)
    rw [hc] at this
    simp only [bitsL, Int.toNat_natCast, List.append_nil]
    exact this
theorem stBits_parts (t m r s v : Nat) (ht : t < 65536) (hm : m < 16) (hr : r < 16) (hs : s < 256) (hv : v < 4294967296) :
    numL (((stBits t m r s v).drop 0).take 16) = t ∧ numL (((stBits t m r s v).drop 16).take 4) = m ∧ numL (((stBits t m r s v).drop 20).take 4) = r ∧ numL (((stBits t m r s v).drop 24).take 8) = s ∧ numL (((stBits t m r s v).drop 32).take 32) = v := by
  have l16 : (bitsN t 16).length = 16 := bitsN_len _ _
  have lm : (bitsN m 4).length = 4 := bitsN_len _ _
  have lr : (bitsN r 4).length = 4 := bitsN_len _ _
  have ls : (bitsN s 8).length = 8 := bitsN_len _ _
  have lv : (bitsN v 32).length = 32 := bitsN_len _ _
  unfold stBits
  generalize hA : bitsN t 16 = A at *
  generalize hB : bitsN m 4 = B at *
  generalize hC : bitsN r 4 = C at *
  generalize hD : bitsN s 8 = D at *
  generalize hE : bitsN v 32 = E at *
  have e1 : ((A ++ B ++ C ++ D ++ E).drop 0).take 16 = A := by
    rw [List.drop_zero, List.append_assoc, List.append_assoc, List.append_assoc, List.take_append_of_le_length (by omega), List.take_of_length_le (by omega)]
  have e2 : ((A ++ B ++ C ++ D ++ E).drop 16).take 4 = B := by
    rw [List.append_assoc, List.append_assoc, List.append_assoc, List.drop_append_of_le_length (by omega), List.drop_of_length_le (by omega), List.nil_append, List.take_append_of_le_length (by omega), List.take_of_length_le (by omega)]
  have e3 : ((A ++ B ++ C ++ D ++ E).drop 20).take 4 = C := by
    rw [show A ++ B ++ C ++ D ++ E = (A ++ B) ++ (C ++ (D ++ E)) by simp, List.drop_append_of_le_length (by simp; omega), List.drop_of_length_le (by simp; omega), List.nil_append, List.take_append_of_le_length (by omega), List.take_of_length_le (by omega)]
  have e4 : ((A ++ B ++ C ++ D ++ E).drop 24).take 8 = D := by
    rw [show A ++ B ++ C ++ D ++ E = (A ++ B ++ C) ++ (D ++ E) by simp, List.drop_append_of_le_length (by simp; omega), List.drop_of_length_le (by simp; omega), List.nil_append, List.take_append_of_le_length (by omega), List.take_of_length_le (by omega)]
  have e5 : ((A ++ B ++ C ++ D ++ E).drop 32).take 32 = E := by
    rw [List.drop_append_of_le_length (by simp; omega), List.drop_of_length_le (by simp; omega), List.nil_append, List.take_of_length_le (by omega)]
  rw [e1, e2, e3, e4, e5, ← hA, ← hB, ← hC, ← hD, ← hE]
  exact ⟨numL_bitsN _ _ (by omega), numL_bitsN _ _ (by omega), numL_bitsN _ _ (by omega), numL_bitsN _ _ (by omega), numL_bitsN _ _ (by omega)⟩
theorem fr_st {k q t m r s v : Int} {xs : List Int} (h : frOk k q t m r s v xs = true) : (0 ≤ k ∧ k ≤ 3) ∧ (0 ≤ q ∧ q ≤ 7) ∧ sizeOk k xs.length = true ∧ bytesOk xs = true ∧ stOk t m r s v = true ∧ (k = 0 → t = 0 ∧ m = 0 ∧ r = 0 ∧ s = 0 ∧ v = 0) := by
  simp only [frOk, Bool.and_eq_true, decide_eq_true_eq] at h
  obtain ⟨⟨⟨⟨hk, hq⟩, hz⟩, hb⟩, hs⟩ := h
  refine ⟨hk, hq, hz, hb, ?_, ?_⟩
  · split at hs
    · obtain ⟨rfl, rfl, rfl, rfl, rfl⟩ := of_decide_eq_true hs
      decide
    · split at hs
      · simp only [Bool.and_eq_true] at hs
        exact hs.1.1.1
      · exact hs
  · intro h0
    rw [if_pos h0] at hs
    exact of_decide_eq_true hs
/-- The frame out of its body. -/
theorem fb_back {k q t m r s v : Int} {xs : List Int} (h : frOk k q t m r s v xs = true) :
    hdK (bodyL k q t m r s v xs) = k ∧ hdQ (bodyL k q t m r s v xs) = q ∧ hdD (bodyL k q t m r s v xs) = xs ∧
    stF (bodyL k q t m r s v xs) 0 16 = t ∧ stF (bodyL k q t m r s v xs) 16 4 = m ∧ stF (bodyL k q t m r s v xs) 20 4 = r ∧ stF (bodyL k q t m r s v xs) 24 8 = s ∧ stF (bodyL k q t m r s v xs) 32 32 = v := by
  obtain ⟨hk, hq, hz, -, hs, h0⟩ := fr_st h
  have hb := stOk_bd hs
  have e1 : hdK (bodyL k q t m r s v xs) = k := by simp [hdK, bodyL]; omega
  have e2 : hdQ (bodyL k q t m r s v xs) = q := by simp [hdQ, bodyL]; omega
  refine ⟨e1, e2, ?_, ?_⟩
  · unfold hdD
    rw [e1]
    by_cases k0 : k = 0
    · simp [k0, bodyL]
    · by_cases k2 : k = 2
      · have hl := bytesN_len (stBits t.toNat m.toNat r.toNat s.toNat v.toNat) 8
        simp only [k2, bodyL]
        simp [List.drop_append, hl]
      · have := (sizeOk_iff k xs.length).1 hz
        simp [k0, k2]
        cases xs with
        | nil => rfl
        | cons a b => simp at this; omega
  · by_cases k0 : k = 0
    · obtain ⟨rfl, rfl, rfl, rfl, rfl⟩ := h0 k0
      have e1' := e1.trans k0
      exact ⟨if_pos e1', if_pos e1', if_pos e1', if_pos e1', if_pos e1'⟩
    · have hl := bytesN_len (stBits t.toNat m.toNat r.toNat s.toNat v.toNat) 8
      have hbits : bitsL (((bodyL k q t m r s v xs).drop 1).take 8) = stBits t.toNat m.toNat r.toNat s.toNat v.toNat := by
        have : ((bodyL k q t m r s v xs).drop 1).take 8 = bytesN (stBits t.toNat m.toNat r.toNat s.toNat v.toNat) 8 := by
          simp only [bodyL, if_neg k0, List.drop_succ_cons, List.drop_zero]
          rw [List.take_append_of_le_length (by omega), List.take_of_length_le (by omega)]
        rw [this, bitsL_bytesN _ (stBits_mem _ _ _ _ _) _ (by rw [stBits_len]; omega), List.take_of_length_le (by rw [stBits_len]; omega)]
      obtain ⟨p1, p2, p3, p4, p5⟩ := stBits_parts t.toNat m.toNat r.toNat s.toNat v.toNat (by omega) (by omega) (by omega) (by omega) (by omega)
      simp only [stF, e1, if_neg k0, hbits, p1, p2, p3, p4, p5]
      omega
theorem fbOk_body {k q t m r s v : Int} {xs : List Int} (h : frOk k q t m r s v xs = true) : fbOk (bodyL k q t m r s v xs) = true := by
  obtain ⟨e1, e2, e3, e4, e5, e6, e7, e8⟩ := fb_back h
  unfold fbOk
  rw [e1, e2, e3, e4, e5, e6, e7, e8, h, eqL_refl]
  have hl := bodyL_len k q t m r s v xs
  by_cases k0 : k = 0
  · simp [k0, bodyL]
  · rw [if_neg k0] at hl
    have hn : bodyL k q t m r s v xs ≠ [] := by simp [bodyL]
    simp only [decide_eq_true hn, Bool.true_and, Bool.and_true, Bool.or_eq_true, decide_eq_true_eq]
    exact .inr (by omega)
end Go.Proofs.Ytpcdachkmekjgaa

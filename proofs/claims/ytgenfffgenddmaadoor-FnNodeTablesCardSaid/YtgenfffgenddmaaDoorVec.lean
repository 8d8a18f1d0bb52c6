/- Contracts of the functions on membership vectors, of the program and of the reference, over the same plain functions. -/
import Derived.Test.YtgenfffgenddmaaDoorHelp
import Derived.Test.YtgenfffgenddmaaDoorNum
import Derived.Test.YtgenfffgenddmaaDoorSc
namespace Go.Proofs.YtgenfffgenddmaaDoor
open Go.RowKit
set_option linter.unusedSimpArgs false
set_option linter.unusedVariables false

def allIn (xs : List Int) (lo hi : Int) : Bool := xs.all fun x => decide (lo ≤ x ∧ x ≤ hi)
theorem getD_lt (xs : List Int) (k : Nat) (h : k < xs.length) : xs.getD k 0 = xs[k] := by simp [List.getD_eq_getElem?_getD, List.getElem?_eq_getElem h]
theorem allIn_iff (xs : List Int) (lo hi : Int) : allIn xs lo hi = true ↔ ∀ k, k < xs.length → lo ≤ xs.getD k 0 ∧ xs.getD k 0 ≤ hi := by
  simp only [allIn, List.all_eq_true, decide_eq_true_eq]
  constructor
  · intro h k hk; rw [getD_lt xs k hk]; exact h _ (List.getElem_mem hk)
  · intro h x hx
    obtain ⟨k, hk, rfl⟩ := List.getElem_of_mem hx
    rw [← getD_lt xs k hk]; exact h k hk
theorem allIn_step (xs : List Int) (lo hi : Int) (k : Nat) (hk : k < xs.length) (h : allIn (xs.take k) lo hi = true) (h1 : lo ≤ xs.getD k 0) (h2 : xs.getD k 0 ≤ hi) : allIn (xs.take (k+1)) lo hi = true := by
  rw [take_succ_getD xs k hk]; unfold allIn at *; rw [List.all_append, h]; simp at h1 h2 ⊢; exact ⟨h1, h2⟩
theorem allIn_bad (xs : List Int) (lo hi : Int) (k : Nat) (hk : k < xs.length) (h1 : xs.getD k 0 < lo ∨ hi < xs.getD k 0) : allIn xs lo hi = false := by
  rw [Bool.eq_false_iff]; intro h; have := (allIn_iff xs lo hi).1 h k hk; omega
theorem allIn_all (xs : List Int) (lo hi : Int) (h : allIn (xs.take xs.length) lo hi = true) : allIn xs lo hi = true := by rwa [List.take_length] at h

set_option maxHeartbeats 400000 in
theorem i_allWithin (A : Option Addr) (n c : Nat) (xs : List Int) (lo hi : Int) (B : Nat) (w : World) (h : IntsAt w B A n c xs) :
    Calls Tryd.prog 74 #[.slice A n c, .int .i64 lo, .int .i64 hi] w fun e w' => e = .returned (.bool (allIn xs lo hi)) ∧ w = w' := by
  obtain ⟨hl, _, hn, _, hc⟩ := h
  have Hl := Lib.hid hl; clear hl
  go_enter Tryd.func74, Tryd.ntmps74
  go_wp2
  go_loop [11] (fun i => ∃ k : Nat, k ≤ n ∧ i = .int .i64 k ∧ Hid (allIn (xs.take k) lo hi = true)) (fun i => n - (intOf i).toNat)
  case atStart => exact ⟨0, Nat.zero_le _, rfl, rfl⟩
  case round =>
    obtain ⟨k, hk, rfl, Hall⟩ := hrel
    by_cases hlt : k < n
    · obtain ⟨ad, rfl, _, hcell⟩ := hc (by omega)
      have hx := hcell k hlt
      have hkx : k < xs.length := by rw [Hl.out]; exact hlt
      clear hcell hc
      generalize hX : xs.getD k 0 = x at hx
      have HX := Lib.hid hX; clear hX
      by_cases h1 : lo ≤ x
      · by_cases h2 : x ≤ hi
        · go_wp2
          go_round
          case rel => exact ⟨k + 1, by omega, by go_num, allIn_step xs lo hi k hkx Hall.out (by rw [HX.out]; exact h1) (by rw [HX.out]; exact h2)⟩
          case measure => simp [intOf]; omega
        · go_wp2
          go_ret
          exact ⟨by rw [allIn_bad xs lo hi k hkx (by rw [HX.out]; omega)]; rfl, rfl⟩
      · go_wp2
        go_ret
        exact ⟨by rw [allIn_bad xs lo hi k hkx (by rw [HX.out]; omega)]; rfl, rfl⟩
    · have hkn : k = n := by omega
      have Hkn := Lib.hid hkn; clear hkn hc
      go_wp2
      go_ret
      exact ⟨by rw [allIn_all xs lo hi (by rw [Hl.out, ← Hkn.out]; exact Hall.out)]; rfl, rfl⟩
theorem i_has (m k : Int) (w : World) (h0 : 0 ≤ k) (h1 : k ≤ 31) :
    Calls Tryd.prog 71 #[.int .i64 m, .int .i64 k] w fun e w' => e = .returned (.bool (hasB m k)) ∧ w = w' := by
  go_enter Tryd.func71, Tryd.ntmps71
  go_wp2
  go_ret
  exact ⟨rfl, rfl⟩
theorem s_l05Has (m k : Int) (w : World) (h0 : 0 ≤ k) (h1 : k ≤ 31) :
    Calls Tryd.prog 95 #[.int .i64 m, .int .i64 k] w fun e w' => e = .returned (.bool (hasB m k)) ∧ w = w' := by
  go_enter Tryd.func95, Tryd.ntmps95
  go_wp2
  go_ret
  exact ⟨rfl, rfl⟩
def memList (m : Int) (k : Nat) : List Int := ((List.range k).filter (fun (j : Nat) => hasB m j)).map (fun (j : Nat) => (j : Int))
theorem memList_succ (m : Int) (k : Nat) : memList m (k+1) = if hasB m k = true then memList m k ++ [(k : Int)] else memList m k := by
  unfold memList; rw [List.range_succ, List.filter_append, List.map_append]
  by_cases h : hasB m k = true <;> simp [h]
theorem memList_len (m : Int) (k : Nat) : (memList m k).length ≤ k := by
  unfold memList; rw [List.length_map]; exact Nat.le_trans (List.length_filter_le _ _) (by simp)
def vecB (m : Int) : Bool := decide (0 ≤ m ∧ m ≤ 4294967295)
def membersL (m : Int) : List Int := if vecB m = true then memList m 32 else []
def membersC (m : Int) : Int := if vecB m = true then 0 else 2
theorem membersL_len (m : Int) : (membersL m).length ≤ 32 := by unfold membersL; split <;> simp [memList_len]
def cntB (xs : List Int) (k : Nat) : Nat := (xs.filter fun x => hasB x k).length
theorem cntB_le (xs : List Int) (k : Nat) : cntB xs k ≤ xs.length := List.length_filter_le _ _
theorem cntB_succ (xs : List Int) (k q : Nat) (h : q < xs.length) : cntB (xs.take (q+1)) k = if hasB (xs.getD q 0) k = true then cntB (xs.take q) k + 1 else cntB (xs.take q) k := by
  rw [take_succ_getD xs q h]; unfold cntB; rw [List.filter_append]
  by_cases hh : hasB (xs.getD q 0) k = true
  · rw [if_pos hh, List.length_append]; simp only [List.filter_cons, hh, if_true, List.filter_nil, List.length_cons, List.length_nil]
  · rw [if_neg hh, List.length_append]; simp only [List.filter_cons, hh, if_false, List.filter_nil, List.length_nil]; simp
def agr (xs : List Int) : Nat → Nat
  | 0 => 0
  | k + 1 => if 2 * cntB xs k > xs.length then agr xs k + 2 ^ k else agr xs k
theorem agr_lt (xs : List Int) (k : Nat) : agr xs k < 2 ^ k := by
  induction k with
  | zero => simp [agr]
  | succ k ih => rw [agr]; split <;> (rw [Nat.pow_succ]; omega)
def agreedOk (xs : List Int) : Bool := decide (1 ≤ xs.length ∧ xs.length ≤ 32) && allIn xs 0 4294967295
def agreedV (xs : List Int) : Int := if agreedOk xs = true then (agr xs 32 : Int) else 0
def agreedC (xs : List Int) : Int := if agreedOk xs = true then 0 else 2
theorem s_l05Set (m k : Nat) (b : Bool) (w : World) (hm : m < 4294967296) (hk : k ≤ 31) :
    Calls Tryd.prog 87 #[.int .i64 m, .int .i64 k, .bool b] w fun e w' => e = .returned (.int .i64 (setN m k b : Nat)) ∧ w = w' := by
  have hh := hasB_nat m k (by omega)
  have hx := xor_pow m k hm hk
  have Hx := Lib.hid hx; clear hx
  by_cases hb : m.testBit k = b
  · have e : setN m k b = m := by unfold setN; rw [if_pos hb]
    have hc : (hasB m k == b) = true := by rw [hh, hb]; simp
    rw [e]
    clear hb hh e
    go_enter Tryd.func87, Tryd.ntmps87
    go_wp2_with (go_at_call 95; refine (s_l05Has m k _ (by omega) (by omega)).mono ?_; rintro e w' ⟨rfl, rfl⟩)
    go_ret
    exact ⟨rfl, rfl⟩
  · have e : setN m k b = m ^^^ 2 ^ k := by unfold setN; rw [if_neg hb]
    have hc : (hasB m k == b) = false := by rw [hh]; simpa using hb
    rw [e]
    clear hb hh e
    go_enter Tryd.func87, Tryd.ntmps87
    go_wp2_with (go_at_call 95; refine (s_l05Has m k _ (by omega) (by omega)).mono ?_; rintro e w' ⟨rfl, rfl⟩)
    go_ret
    exact ⟨by rw [← Hx.out]; rfl, rfl⟩
def cliqL (xs : List Int) (v : Int) (k : Nat) : List Int := ((List.range k).filter (fun (j : Nat) => decide (xs.getD j 0 = v))).map (fun (j : Nat) => (j : Int))
theorem cliqL_succ (xs : List Int) (v : Int) (k : Nat) : cliqL xs v (k+1) = if xs.getD k 0 = v then cliqL xs v k ++ [(k : Int)] else cliqL xs v k := by
  unfold cliqL; rw [List.range_succ, List.filter_append, List.map_append]
  by_cases h : xs.getD k 0 = v
  · rw [if_pos h]; simp only [List.filter_cons, h, decide_true, if_true, List.filter_nil, List.map_cons, List.map_nil]
  · rw [if_neg h]; simp only [List.filter_cons, h, decide_false, List.filter_nil, List.map_nil]; simp
theorem cliqL_len (xs : List Int) (v : Int) (k : Nat) : (cliqL xs v k).length ≤ k := by
  unfold cliqL; rw [List.length_map]; exact Nat.le_trans (List.length_filter_le _ _) (by simp)
def cliqOk (xs : List Int) (node : Int) : Bool := decide (xs.length ≤ 32) && allIn xs 0 4294967295 && decide (0 ≤ node ∧ node < xs.length)
def cliqR (xs : List Int) (node : Int) : List Int := if cliqOk xs node = true then cliqL xs (xs.getD node.toNat 0) xs.length else []
def cliqC (xs : List Int) (node : Int) : Int := if cliqOk xs node = true then 0 else 2
theorem cliqR_len (xs : List Int) (node : Int) : (cliqR xs node).length ≤ 32 := by
  unfold cliqR; split
  · rename_i h
    simp only [cliqOk, Bool.and_eq_true, decide_eq_true_eq] at h
    exact Nat.le_trans (cliqL_len _ _ _) h.1.1
  · simp
theorem cliq_bad {xs : List Int} {node : Int} {n : Nat} (hl : xs.length = n) (h : cliqOk xs node = false) :
    32 < n ∨ (n ≤ 32 ∧ allIn xs 0 4294967295 = false) ∨ (n ≤ 32 ∧ allIn xs 0 4294967295 = true ∧ node < 0) ∨ (n ≤ 32 ∧ allIn xs 0 4294967295 = true ∧ 0 ≤ node ∧ (n : Int) ≤ node) := by
  simp only [cliqOk, hl] at h
  by_cases h1 : n ≤ 32
  · by_cases h2 : allIn xs 0 4294967295 = true
    · by_cases h3 : 0 ≤ node
      · refine .inr (.inr (.inr ⟨h1, h2, h3, ?_⟩))
        simp [h1, h2, h3] at h; exact h
      · exact .inr (.inr (.inl ⟨h1, h2, by omega⟩))
    · exact .inr (.inl ⟨h1, by simpa using h2⟩)
  · exact .inl (by omega)
end Go.Proofs.YtgenfffgenddmaaDoor

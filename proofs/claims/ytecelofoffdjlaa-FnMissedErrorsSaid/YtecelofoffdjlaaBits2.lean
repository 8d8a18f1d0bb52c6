/- Where two bit lists differ, and their sum. -/
import Derived.Test.YtecelofoffdjlaaBits
import Derived.BigRegion
import Derived.RegionTactic
import Derived.Deep.RegionHeld3
import Derived.Deep.Cut
namespace Go.Proofs.Ytecelofoffdjlaa
open Go.RowKit
set_option linter.unusedSimpArgs false
set_option linter.unusedVariables false
/-- The indices below k at which two lists differ. -/
def diffL (xs ys : List Int) (k : Nat) : List Int := ((List.range k).filter (fun (j : Nat) => xs.getD j 0 != ys.getD j 0)).map (fun (j : Nat) => (j : Int))
theorem diffL_succ (xs ys : List Int) (k : Nat) : diffL xs ys (k+1) = if xs.getD k 0 ≠ ys.getD k 0 then diffL xs ys k ++ [(k : Int)] else diffL xs ys k := by
  unfold diffL; rw [List.range_succ, List.filter_append, List.map_append]
  by_cases h : xs.getD k 0 = ys.getD k 0 <;> simp [h, -List.getD_eq_getElem?_getD]
theorem diffL_len (xs ys : List Int) (k : Nat) : (diffL xs ys k).length ≤ k := by
  unfold diffL; rw [List.length_map]; exact Nat.le_trans (List.length_filter_le _ _) (by simp)
/-- The sum of two bit lists. -/
def sumL (xs ys : List Int) (k : Nat) : List Int := (List.range k).map (fun (j : Nat) => if xs.getD j 0 = ys.getD j 0 then 0 else 1)
theorem sumL_succ (xs ys : List Int) (k : Nat) : sumL xs ys (k+1) = sumL xs ys k ++ [if xs.getD k 0 = ys.getD k 0 then 0 else 1] := by
  unfold sumL; rw [List.range_succ, List.map_append]; rfl
theorem sumL_len (xs ys : List Int) (k : Nat) : (sumL xs ys k).length = k := by simp [sumL]
theorem sumL_mem (xs ys : List Int) (k : Nat) : ∀ x ∈ sumL xs ys k, 0 ≤ x ∧ x ≤ 1 := by
  intro x hx
  simp only [sumL, List.mem_map] at hx
  obtain ⟨j, _, rfl⟩ := hx
  split <;> omega
theorem bit_xor (a b : Int) (ha : 0 ≤ a ∧ a ≤ 1) (hb : 0 ≤ b ∧ b ≤ 1) : bits .xor .i64 a b = if a = b then 0 else 1 := by
  have h1 : a = 0 ∨ a = 1 := by omega
  have h2 : b = 0 ∨ b = 1 := by omega
  rcases h1 with rfl | rfl <;> rcases h2 with rfl | rfl <;> decide
set_option maxHeartbeats 1000000 in
theorem i_differing (A A' : Option Addr) (n c c' : Nat) (xs ys : List Int) (B B' : Nat) (w : World) (h : IntsAt w B A n c xs) (h' : IntsAt w B' A' n c' ys) (hB : B ≤ w.heap.size) (hB' : B' ≤ w.heap.size) :
    Calls Try.prog 113 #[.slice A n c, .slice A' n c'] w fun e w' => ∃ v, e = .returned v ∧ IOwn w' w.heap.size v (diffL xs ys n) ∧ Below w.heap.size w w' := by
  have hn := h.small
  go_enter Try.func113, Try.ntmps113
  go_wp2_with fail
  go_loopw [5, 10] (fun o i wr => ∃ k : Nat, k ≤ n ∧ i = .int .i64 k ∧ IOwn wr w.heap.size o (diffL xs ys k) ∧ Below w.heap.size w wr) (fun _ i _ => n - (intOf i).toNat)
  case atStart => exact ⟨0, by omega, rfl, lit_own w [] _ (Nat.le_refl _) (by simp), (Below.refl _ _).alloc (Nat.le_refl _) _⟩
  case round =>
    obtain ⟨k, hk, rfl, hown, hb⟩ := hrel
    have hlen := diffL_len xs ys k
    have hsz := hb.size
    by_cases hlt : k < n
    · obtain ⟨ad, rfl, hab, hx⟩ := h.at_ k hlt
      obtain ⟨ad', rfl, hab', hy⟩ := h'.at_ k hlt
      have hx1 : wr.cell? (ad.add k) = some (.int .i64 (xs.getD k 0)) := by rw [hb.cell (by rw [block_add]; omega)]; exact hx
      have hy1 : wr.cell? (ad'.add k) = some (.int .i64 (ys.getD k 0)) := by rw [hb.cell (by rw [block_add]; omega)]; exact hy
      have hs := diffL_succ xs ys k
      clear hx hy
      generalize hX : xs.getD k 0 = x at hx1 hs
      generalize hY : ys.getD k 0 = y at hy1 hs
      have HX := Lib.hid hX; have HY := Lib.hid hY; clear hX hY
      have b0 : (0 : Int) ≤ (k : Int) := by omega
      have b1 : (k : Int) < n := by omega
      by_cases hxy : x = y
      · rw [if_neg (by simpa using hxy)] at hs
        have Hs := Lib.hid hs; clear hs
        have hxy' : (x != y) = false := by simpa using hxy
        have Hxy := Lib.hid hxy; clear hxy
        go_wp2
        go_quiet (fail)
        go_wp2
        go_roundw
        case rel => exact ⟨k + 1, by omega, by go_num, by rw [Hs.out]; exact hown.drewN _, below_drewN hb _⟩
        case measure => simp [intOf]; omega
      · rw [if_pos hxy] at hs
        have Hs := Lib.hid hs; clear hs
        have hxy' : (x != y) = true := by simpa using hxy
        have Hxy := Lib.hid hxy; clear hxy
        go_wp2
        go_quiet (fail)
        go_wp2_with (at_builtin; refine wpList_app _ rfl _ _ 29 rfl w.heap.size Try.underlying29 int_info _ (diffL xs ys k) rfl ((hown.drewN _).alloc _) _ _ 1 1 [(k : Int)] rfl (lit_ints (wr.drewN _) [(k : Int)] 2 (by simp)) (by omega) (by simp; omega) ?_; intro v' w' hown' hg' _)
        have hb' := app_below' (below_drewN hb _) (Nat.le_refl _) hsz (hown.drewN _) hg'
        go_roundw
        case rel => exact ⟨k + 1, by omega, by go_num, by rw [Hs.out]; exact hown', hb'⟩
        case measure => simp [intOf]; omega
    · have hk' : k = n := by omega
      subst hk'
      go_wp2
      go_ret
      exact ⟨_, rfl, hown, hb⟩
set_option maxHeartbeats 1000000 in
theorem s_l01Differ (A A' : Option Addr) (n c c' : Nat) (xs ys : List Int) (B B' : Nat) (w : World) (h : IntsAt w B A n c xs) (h' : IntsAt w B' A' n c' ys) (hB : B ≤ w.heap.size) (hB' : B' ≤ w.heap.size) :
    Calls Try.prog 91 #[.slice A n c, .slice A' n c'] w fun e w' => ∃ v, e = .returned v ∧ IOwn w' w.heap.size v (diffL xs ys n) ∧ Below w.heap.size w w' := by
  have hn := h.small
  go_enter Try.func91, Try.ntmps91
  go_wp2_with fail
  go_loopw [5, 6] (fun o i wr => ∃ k : Nat, k ≤ n ∧ i = .int .i64 k ∧ IOwn wr w.heap.size o (diffL xs ys k) ∧ Below w.heap.size w wr) (fun _ i _ => n - (intOf i).toNat)
  case atStart => exact ⟨0, by omega, rfl, lit_own w [] _ (Nat.le_refl _) (by simp), (Below.refl _ _).alloc (Nat.le_refl _) _⟩
  case round =>
    obtain ⟨k, hk, rfl, hown, hb⟩ := hrel
    have hlen := diffL_len xs ys k
    have hsz := hb.size
    by_cases hlt : k < n
    · obtain ⟨ad, rfl, hab, hx⟩ := h.at_ k hlt
      obtain ⟨ad', rfl, hab', hy⟩ := h'.at_ k hlt
      have hx1 : wr.cell? (ad.add k) = some (.int .i64 (xs.getD k 0)) := by rw [hb.cell (by rw [block_add]; omega)]; exact hx
      have hy1 : wr.cell? (ad'.add k) = some (.int .i64 (ys.getD k 0)) := by rw [hb.cell (by rw [block_add]; omega)]; exact hy
      have hs := diffL_succ xs ys k
      clear hx hy
      generalize hX : xs.getD k 0 = x at hx1 hs
      generalize hY : ys.getD k 0 = y at hy1 hs
      have HX := Lib.hid hX; have HY := Lib.hid hY; clear hX hY
      have b0 : (0 : Int) ≤ (k : Int) := by omega
      have b1 : (k : Int) < n := by omega
      by_cases hxy : x = y
      · rw [if_neg (by simpa using hxy)] at hs
        have Hs := Lib.hid hs; clear hs
        have hxy' : (x != y) = false := by simpa using hxy
        have Hxy := Lib.hid hxy; clear hxy
        go_wp2
        go_quiet (fail)
        go_wp2
        go_roundw
        case rel => exact ⟨k + 1, by omega, by go_num, by rw [Hs.out]; exact hown.drewN _, below_drewN hb _⟩
        case measure => simp [intOf]; omega
      · rw [if_pos hxy] at hs
        have Hs := Lib.hid hs; clear hs
        have hxy' : (x != y) = true := by simpa using hxy
        have Hxy := Lib.hid hxy; clear hxy
        go_wp2
        go_quiet (fail)
        go_wp2_with (at_builtin; refine wpList_app _ rfl _ _ 29 rfl w.heap.size Try.underlying29 int_info _ (diffL xs ys k) rfl ((hown.drewN _).alloc _) _ _ 1 1 [(k : Int)] rfl (lit_ints (wr.drewN _) [(k : Int)] 2 (by simp)) (by omega) (by simp; omega) ?_; intro v' w' hown' hg' _)
        have hb' := app_below' (below_drewN hb _) (Nat.le_refl _) hsz (hown.drewN _) hg'
        go_roundw
        case rel => exact ⟨k + 1, by omega, by go_num, by rw [Hs.out]; exact hown', hb'⟩
        case measure => simp [intOf]; omega
    · have hk' : k = n := by omega
      subst hk'
      go_wp2
      go_ret
      exact ⟨_, rfl, hown, hb⟩
theorem i_StandardCrc (w : World) : Calls Try.prog 96 #[] w fun e w' => e = .returned (.agg #[.int .i64 24, .int .i64 6122955]) ∧ Below w.heap.size w w' := by
  go_enter Try.func96, Try.ntmps96
  go_wp2
  exact bodyPost_ret (v := .agg #[.int .i64 24, .int .i64 6122955]) (by simp [results, Try.results96, go_sem]) rfl ⟨rfl, (Below.refl _ _).alloc (Nat.le_refl _) _⟩
theorem s_StandardCrc (w : World) : Calls Try.prog 89 #[] w fun e w' => e = .returned (.agg #[.int .i64 24, .int .i64 6122955]) ∧ Below w.heap.size w w' := by
  go_enter Try.func89, Try.ntmps89
  go_wp2
  exact bodyPost_ret (v := .agg #[.int .i64 24, .int .i64 6122955]) (by simp [results, Try.results89, go_sem]) rfl ⟨rfl, (Below.refl _ _).alloc (Nat.le_refl _) _⟩
theorem i_twoLists (A A' : Option Addr) (n c c' : Nat) (xs ys : List Int) (B B' : Nat) (w : World) (h : IntsAt w B A n c xs) (h' : IntsAt w B' A' n c' ys) (hx : bitsOk xs = true) (hy : bitsOk ys = true) :
    Calls Try.prog 121 #[.slice A n c, .slice A' n c'] w fun e w' => e = .returned (.int .i64 0) ∧ w = w' := by
  have c1 := i_IsBits _ _ _ xs _ w h
  have c2 := i_IsBits _ _ _ ys _ w h'
  rw [hx] at c1
  rw [hy] at c2
  go_enter Try.func121, Try.ntmps121
  go_wp2_with (first | (go_at_call 93; with_reducible refine c1.mono ?_; rintro e w' ⟨rfl, rfl⟩) | (go_at_call 93; with_reducible refine c2.mono ?_; rintro e w' ⟨rfl, rfl⟩))
  go_ret
  exact ⟨rfl, rfl⟩
end Go.Proofs.Ytecelofoffdjlaa

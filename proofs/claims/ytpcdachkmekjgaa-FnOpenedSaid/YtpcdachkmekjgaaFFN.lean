/- Contracts: the short ways of a frame out of a body. -/
import Derived.Test.YtpcdachkmekjgaaFFI
import Derived.Deep.RegionHeld3
import Derived.BigRegion
namespace Go.Proofs.Ytpcdachkmekjgaa
open Go.RowKit
set_option linter.unusedSimpArgs false
set_option linter.unusedVariables false
set_option maxHeartbeats 1000000 in
theorem i_ff_nil (A : Option Addr) (c : Nat) (w : World) : Calls Try.prog 59 #[.slice A 0 c] w (FFQ w []) := by
  have R0 := heap_alloc_new w (.cells #[.int .i64 0, .int .i64 0, .int .i64 0, .int .i64 0, .int .i64 0, .int .i64 0, .int .i64 0, .slice none 0 0] 32)
  have B0 := (Below.refl w.heap.size w).alloc (Nat.le_refl _) (.cells #[.int .i64 0, .int .i64 0, .int .i64 0, .int .i64 0, .int .i64 0, .int .i64 0, .int .i64 0, .slice none 0 0] 32)
  have HF := Lib.hid (show fbOk [] = false from rfl)
  go_enter Try.func59, Try.ntmps59
  go_upto_region 1 with fail
  generalize hg : w.heap.size = g at *
  generalize World.alloc _ _ = W at *
  obtain ⟨c0, c1, c2', c3, c4, c5, c6, c7⟩ := fr_cells R0
  obtain ⟨f0, f1, f2, f3, f4, f5, f6, f7⟩ := fr_frozen R0
  go_wp2_with fail
  all_goals
    have RR := eight_heap (v0 := .int .i64 0) (v1 := .int .i64 0) (v2 := .int .i64 0) (v3 := .int .i64 0) (v4 := .int .i64 0) (v5 := .int .i64 0) (v6 := .int .i64 0) (v7 := .slice none 0 0) R0
    have BB := below_eight (v0 := .int .i64 0) (v1 := .int .i64 0) (v2 := .int .i64 0) (v3 := .int .i64 0) (v4 := .int .i64 0) (v5 := .int .i64 0) (v6 := .int .i64 0) (v7 := .slice none 0 0) B0 (Nat.le_refl g)
    clear c0 c1 c2' c3 c4 c5 c6 c7 f0 f1 f2 f3 f4 f5 f6 f7 R0 B0
    revert RR BB
    generalize World.setCell _ _ _ = Y9
    intro RR BB
    obtain ⟨e0, e1, e2, e3, e4, e5, e6, e7⟩ := fr_cells RR
    go_wp2
    exact bodyPost_ret (v := .tuple #[.agg #[.int .i64 0, .int .i64 0, .int .i64 0, .int .i64 0, .int .i64 0, .int .i64 0, .int .i64 0, .slice none 0 0], .bool false]) (by simp [results, Try.results59, go_sem, e0, e1, e2, e3, e4, e5, e6, e7]) rfl ⟨0, 0, 0, 0, 0, 0, 0, none, 0, 0, by rw [HF.out], (fun h => by rw [HF.out] at h; cases h), by rw [hg]; exact BB⟩
set_option maxHeartbeats 1000000 in
theorem s_ff_nil (A : Option Addr) (c : Nat) (w : World) : Calls Try.prog 57 #[.slice A 0 c] w (FFQ w []) := by
  have R0 := heap_alloc_new w (.cells #[.int .i64 0, .int .i64 0, .int .i64 0, .int .i64 0, .int .i64 0, .int .i64 0, .int .i64 0, .slice none 0 0] 32)
  have B0 := (Below.refl w.heap.size w).alloc (Nat.le_refl _) (.cells #[.int .i64 0, .int .i64 0, .int .i64 0, .int .i64 0, .int .i64 0, .int .i64 0, .int .i64 0, .slice none 0 0] 32)
  have HF := Lib.hid (show fbOk [] = false from rfl)
  go_enter Try.func57, Try.ntmps57
  go_upto_region 1 with fail
  generalize hg : w.heap.size = g at *
  generalize World.alloc _ _ = W at *
  obtain ⟨c0, c1, c2', c3, c4, c5, c6, c7⟩ := fr_cells R0
  obtain ⟨f0, f1, f2, f3, f4, f5, f6, f7⟩ := fr_frozen R0
  go_wp2_with fail
  all_goals
    have RR := eight_heap (v0 := .int .i64 0) (v1 := .int .i64 0) (v2 := .int .i64 0) (v3 := .int .i64 0) (v4 := .int .i64 0) (v5 := .int .i64 0) (v6 := .int .i64 0) (v7 := .slice none 0 0) R0
    have BB := below_eight (v0 := .int .i64 0) (v1 := .int .i64 0) (v2 := .int .i64 0) (v3 := .int .i64 0) (v4 := .int .i64 0) (v5 := .int .i64 0) (v6 := .int .i64 0) (v7 := .slice none 0 0) B0 (Nat.le_refl g)
    clear c0 c1 c2' c3 c4 c5 c6 c7 f0 f1 f2 f3 f4 f5 f6 f7 R0 B0
    revert RR BB
    generalize World.setCell _ _ _ = Y9
    intro RR BB
    obtain ⟨e0, e1, e2, e3, e4, e5, e6, e7⟩ := fr_cells RR
    go_wp2
    exact bodyPost_ret (v := .tuple #[.agg #[.int .i64 0, .int .i64 0, .int .i64 0, .int .i64 0, .int .i64 0, .int .i64 0, .int .i64 0, .slice none 0 0], .bool false]) (by simp [results, Try.results57, go_sem, e0, e1, e2, e3, e4, e5, e6, e7]) rfl ⟨0, 0, 0, 0, 0, 0, 0, none, 0, 0, by rw [HF.out], (fun h => by rw [HF.out] at h; cases h), by rw [hg]; exact BB⟩
set_option maxHeartbeats 2000000 in
theorem i_ff_short (ad : Addr) (n c : Nat) (xs : List Int) (B : Nat) (w : World) (h : IntsAt w B (some ad) (n + 1) (c + 1) xs) (hB : B ≤ w.heap.size) (hbm : ∀ x ∈ xs, 0 ≤ x ∧ x ≤ 255) (hn2 : n < 8) (hk : hdK xs ≠ 0) :
    Calls Try.prog 59 #[.slice (some ad) (n + 1) (c + 1)] w (FFQ w xs) := by
  obtain ⟨ad', e, hab, hx⟩ := h.at_ 0 (by omega)
  cases e
  have hle := h.le
  have hlen := h.len
  have hcm : c + 1 ≤ 9223372036854775807 := Nat.le_trans h.cap (by unfold maxLen; omega)
  have R0 := heap_alloc_new w (.cells #[.int .i64 0, .int .i64 0, .int .i64 0, .int .i64 0, .int .i64 0, .int .i64 0, .int .i64 0, .slice none 0 0] 32)
  have B0 := (Below.refl w.heap.size w).alloc (Nat.le_refl _) (.cells #[.int .i64 0, .int .i64 0, .int .i64 0, .int .i64 0, .int .i64 0, .int .i64 0, .int .i64 0, .slice none 0 0] 32)
  have I0 := h.alloc hB (.cells #[.int .i64 0, .int .i64 0, .int .i64 0, .int .i64 0, .int .i64 0, .int .i64 0, .int .i64 0, .slice none 0 0] 32)
  obtain ⟨x0, x1⟩ := getD_of_mem hbm 0 (by omega)
  have hf : fbOk xs = false := by
    unfold fbOk
    rw [show decide (hdK xs = 0) = false from decide_eq_false hk, show decide (9 ≤ xs.length) = false from decide_eq_false (by omega)]
    simp
  have hk0 : xs.getD 0 0 / 64 ≠ 0 := hk
  generalize hX : xs.getD 0 0 = x at hx x0 x1 hk0
  have HF := Lib.hid hf; have HX := Lib.hid hX; have HK0 := Lib.hid hk0
  clear hf hX hlen h hbm hk0 hk
  go_enter Try.func59, Try.ntmps59
  go_upto_region 1 with fail
  generalize hg : w.heap.size = g at *
  generalize World.alloc _ _ = W at *
  have zW := Below.lt_of' R0
  have hl1 : ad.block < W.heap.size := by omega
  have hl2 : ad.block ≠ W.heap.size := by omega
  have hx' : W.cell? ad = some (.int .i64 x) := by
    obtain ⟨ad', e, _, hx2⟩ := I0.at_ 0 (by omega)
    cases e
    rw [HX.out] at hx2
    simpa [Addr.add] using hx2
  clear hx
  go_upto_region 3 with fail
  go_region
  obtain ⟨R1, P1, B1, I1, z1⟩ := ff_open (t' := 32) (f := #[.int .i64 (x / 64), .int .i64 (x / 8 % 8), .int .i64 0, .int .i64 0, .int .i64 0, .int .i64 0, .int .i64 0, .slice none 0 0]) R0 B0 I0 hB
  generalize World.drew _ = Y at *
  generalize hg1 : W.heap.size = g1 at *
  clear R0 B0 I0 hx' hl2
  have ng : g ≠ g1 := by omega
  obtain ⟨d0, d1, d2, d3, d4, d5, d6, d7⟩ := fr_cells P1
  obtain ⟨c0, c1, c2', c3, c4, c5, c6, c7⟩ := fr_cells R1
  obtain ⟨f0, f1, f2, f3, f4, f5, f6, f7⟩ := fr_frozen R1
  go_wp2_with (first
    | (go_at_call 73; refine (i_hasS_yes (x / 64) _ HK0.out).mono ?_; rintro e w' ⟨rfl, rfl⟩)
    | fail)
  all_goals
    have RR := eight_heap (v0 := .int .i64 0) (v1 := .int .i64 0) (v2 := .int .i64 0) (v3 := .int .i64 0) (v4 := .int .i64 0) (v5 := .int .i64 0) (v6 := .int .i64 0) (v7 := .slice none 0 0) R1
    have BB := below_eight (v0 := .int .i64 0) (v1 := .int .i64 0) (v2 := .int .i64 0) (v3 := .int .i64 0) (v4 := .int .i64 0) (v5 := .int .i64 0) (v6 := .int .i64 0) (v7 := .slice none 0 0) B1 (Nat.le_refl g)
    clear c0 c1 c2' c3 c4 c5 c6 c7 f0 f1 f2 f3 f4 f5 f6 f7 R1 B1
    revert RR BB
    generalize World.setCell _ _ _ = Y9
    intro RR BB
    obtain ⟨e0, e1, e2, e3, e4, e5, e6, e7⟩ := fr_cells RR
    go_wp2
    exact bodyPost_ret (v := .tuple #[.agg #[.int .i64 0, .int .i64 0, .int .i64 0, .int .i64 0, .int .i64 0, .int .i64 0, .int .i64 0, .slice none 0 0], .bool false]) (by simp [results, Try.results59, go_sem, e0, e1, e2, e3, e4, e5, e6, e7]) rfl ⟨0, 0, 0, 0, 0, 0, 0, none, 0, 0, by rw [HF.out], (fun h => by rw [HF.out] at h; cases h), by rw [hg]; exact BB⟩
set_option maxHeartbeats 2000000 in
theorem s_ff_short (ad : Addr) (n c : Nat) (xs : List Int) (B : Nat) (w : World) (h : IntsAt w B (some ad) (n + 1) (c + 1) xs) (hB : B ≤ w.heap.size) (hbm : ∀ x ∈ xs, 0 ≤ x ∧ x ≤ 255) (hn2 : n < 8) (hk : hdK xs ≠ 0) :
    Calls Try.prog 57 #[.slice (some ad) (n + 1) (c + 1)] w (FFQ w xs) := by
  obtain ⟨ad', e, hab, hx⟩ := h.at_ 0 (by omega)
  cases e
  have hle := h.le
  have hlen := h.len
  have hcm : c + 1 ≤ 9223372036854775807 := Nat.le_trans h.cap (by unfold maxLen; omega)
  have R0 := heap_alloc_new w (.cells #[.int .i64 0, .int .i64 0, .int .i64 0, .int .i64 0, .int .i64 0, .int .i64 0, .int .i64 0, .slice none 0 0] 32)
  have B0 := (Below.refl w.heap.size w).alloc (Nat.le_refl _) (.cells #[.int .i64 0, .int .i64 0, .int .i64 0, .int .i64 0, .int .i64 0, .int .i64 0, .int .i64 0, .slice none 0 0] 32)
  have I0 := h.alloc hB (.cells #[.int .i64 0, .int .i64 0, .int .i64 0, .int .i64 0, .int .i64 0, .int .i64 0, .int .i64 0, .slice none 0 0] 32)
  obtain ⟨x0, x1⟩ := getD_of_mem hbm 0 (by omega)
  have hf : fbOk xs = false := by
    unfold fbOk
    rw [show decide (hdK xs = 0) = false from decide_eq_false hk, show decide (9 ≤ xs.length) = false from decide_eq_false (by omega)]
    simp
  have hk0 : xs.getD 0 0 / 64 ≠ 0 := hk
  generalize hX : xs.getD 0 0 = x at hx x0 x1 hk0
  have HF := Lib.hid hf; have HX := Lib.hid hX; have HK0 := Lib.hid hk0
  clear hf hX hlen h hbm hk0 hk
  go_enter Try.func57, Try.ntmps57
  go_upto_region 1 with fail
  generalize hg : w.heap.size = g at *
  generalize World.alloc _ _ = W at *
  have zW := Below.lt_of' R0
  have hl1 : ad.block < W.heap.size := by omega
  have hl2 : ad.block ≠ W.heap.size := by omega
  have hx' : W.cell? ad = some (.int .i64 x) := by
    obtain ⟨ad', e, _, hx2⟩ := I0.at_ 0 (by omega)
    cases e
    rw [HX.out] at hx2
    simpa [Addr.add] using hx2
  clear hx
  go_upto_region 3 with fail
  go_region
  obtain ⟨R1, P1, B1, I1, z1⟩ := ff_open (t' := 32) (f := #[.int .i64 (x / 64), .int .i64 (x / 8 % 8), .int .i64 0, .int .i64 0, .int .i64 0, .int .i64 0, .int .i64 0, .slice none 0 0]) R0 B0 I0 hB
  generalize World.drew _ = Y at *
  generalize hg1 : W.heap.size = g1 at *
  clear R0 B0 I0 hx' hl2
  have ng : g ≠ g1 := by omega
  obtain ⟨d0, d1, d2, d3, d4, d5, d6, d7⟩ := fr_cells P1
  obtain ⟨c0, c1, c2', c3, c4, c5, c6, c7⟩ := fr_cells R1
  obtain ⟨f0, f1, f2, f3, f4, f5, f6, f7⟩ := fr_frozen R1
  go_wp2_with (first
    | (go_at_call 88; refine (s_hasS_yes (x / 64) _ HK0.out).mono ?_; rintro e w' ⟨rfl, rfl⟩)
    | fail)
  all_goals
    have RR := eight_heap (v0 := .int .i64 0) (v1 := .int .i64 0) (v2 := .int .i64 0) (v3 := .int .i64 0) (v4 := .int .i64 0) (v5 := .int .i64 0) (v6 := .int .i64 0) (v7 := .slice none 0 0) R1
    have BB := below_eight (v0 := .int .i64 0) (v1 := .int .i64 0) (v2 := .int .i64 0) (v3 := .int .i64 0) (v4 := .int .i64 0) (v5 := .int .i64 0) (v6 := .int .i64 0) (v7 := .slice none 0 0) B1 (Nat.le_refl g)
    clear c0 c1 c2' c3 c4 c5 c6 c7 f0 f1 f2 f3 f4 f5 f6 f7 R1 B1
    revert RR BB
    generalize World.setCell _ _ _ = Y9
    intro RR BB
    obtain ⟨e0, e1, e2, e3, e4, e5, e6, e7⟩ := fr_cells RR
    go_wp2
    exact bodyPost_ret (v := .tuple #[.agg #[.int .i64 0, .int .i64 0, .int .i64 0, .int .i64 0, .int .i64 0, .int .i64 0, .int .i64 0, .slice none 0 0], .bool false]) (by simp [results, Try.results57, go_sem, e0, e1, e2, e3, e4, e5, e6, e7]) rfl ⟨0, 0, 0, 0, 0, 0, 0, none, 0, 0, by rw [HF.out], (fun h => by rw [HF.out] at h; cases h), by rw [hg]; exact BB⟩
theorem bytesOk_all {xs : List Int} (h : bytesOk xs = true) : ∀ x ∈ xs, 0 ≤ x ∧ x ≤ 255 := fun x hx => by
  obtain ⟨i, hi, rfl⟩ := List.getElem_of_mem hx
  have := bytesOk_at h i hi
  rwa [List.getD_eq_getElem?_getD, List.getElem?_eq_getElem hi] at this
/-- The code of FrameFromBody, and what a number of it is. -/
def ffC (xs : List Int) : Int := if bytesOk xs then (if fbOk xs then 0 else 6) else 2
def ffV (xs : List Int) (v : Int) : Int := if ffC xs = 0 then v else 0
end Go.Proofs.Ytpcdachkmekjgaa

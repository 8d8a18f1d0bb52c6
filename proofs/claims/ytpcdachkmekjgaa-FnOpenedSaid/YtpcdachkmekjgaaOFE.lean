/- Contracts of OpenFrame: the early codes. -/
import Derived.Test.YtpcdachkmekjgaaOFX
import Derived.Test.YtpcdachkmekjgaaFFU
import Derived.BigRegion
namespace Go.Proofs.Ytpcdachkmekjgaa
open Go.RowKit
set_option linter.unusedSimpArgs false
set_option linter.unusedVariables false
set_option maxHeartbeats 2000000 in
theorem i_of_1 (A : Option Addr) (n c : Nat) (xs ys : List Int) (id T M R S V : Int) (B : Nat) (w : World) (h : IntsAt w B A n c xs) (hB : B ≤ w.heap.size) (hs : stOk T M R S V = false) :
    Calls Try.prog 35 #[.slice A n c, .int .i64 id, .agg #[.int .i64 T, .int .i64 M, .int .i64 R, .int .i64 S, .int .i64 V]] w (OFQ w 1 ys) := by
  obtain ⟨R0, R1⟩ := alloc2 w (.cells #[.int .i64 T, .int .i64 M, .int .i64 R, .int .i64 S, .int .i64 V] 30) (.cells #[.int .i64 0, .int .i64 0, .int .i64 0, .int .i64 0, .int .i64 0, .int .i64 0, .int .i64 0, .slice none 0 0] 32)
  have B0 := ((Below.refl w.heap.size w).alloc (Nat.le_refl _) (.cells #[.int .i64 T, .int .i64 M, .int .i64 R, .int .i64 S, .int .i64 V] 30)).alloc (by simp) (.cells #[.int .i64 0, .int .i64 0, .int .i64 0, .int .i64 0, .int .i64 0, .int .i64 0, .int .i64 0, .slice none 0 0] 32)
  have I0 := (h.alloc hB (.cells #[.int .i64 T, .int .i64 M, .int .i64 R, .int .i64 S, .int .i64 V] 30)).alloc (by simp; omega) (.cells #[.int .i64 0, .int .i64 0, .int .i64 0, .int .i64 0, .int .i64 0, .int .i64 0, .int .i64 0, .slice none 0 0] 32)
  have HST := Lib.hid (fun W' => i_IsState T M R S V W')
  have HID := Lib.hid (fun W' => i_isId id W')
  have HBY := Lib.hid (fun W' I => i_IsBytes A n c xs B W' I)
  rw [hs] at HST
  clear HID HBY
  clear h hs
  go_enter Try.func35, Try.ntmps35
  go_upto_region 1 with fail
  generalize hg : w.heap.size = g at *
  generalize World.alloc _ _ = W at *
  have zW := Below.lt_of' R1
  have zgr : g ≤ g + 1 := by omega
  obtain ⟨s0, s1, s2, s3, s4⟩ := cells5 R0
  obtain ⟨c0, c1, c2, c3, c4, c5, c6, c7'⟩ := fr_cells R1
  go_wp2_with (first
    | (go_at_call 69; refine (HST.out _).mono ?_; rintro e W1 ⟨rfl, b1⟩; have z1 := b1.size; have R11 := (b1.block (g + 1) (by omega)).trans R1; have R01 := (b1.block g (by omega)).trans R0; have B1 := B0.trans (b1.mono (by omega)); have I1 := I0.below' (by omega) b1; obtain ⟨s0, s1, s2, s3, s4⟩ := cells5 R01; obtain ⟨c0, c1, c2, c3, c4, c5, c6, c7'⟩ := fr_cells R11; obtain ⟨f0, f1, f2, f3, f4, f5, f6, f7⟩ := fr_frozen R11))
  all_goals
    have RR := eight_heap (v0 := .int .i64 0) (v1 := .int .i64 0) (v2 := .int .i64 0) (v3 := .int .i64 0) (v4 := .int .i64 0) (v5 := .int .i64 0) (v6 := .int .i64 0) (v7 := .slice none 0 0) R11
    have BB := below_eight (v0 := .int .i64 0) (v1 := .int .i64 0) (v2 := .int .i64 0) (v3 := .int .i64 0) (v4 := .int .i64 0) (v5 := .int .i64 0) (v6 := .int .i64 0) (v7 := .slice none 0 0) B1 zgr
    clear c0 c1 c2 c3 c4 c5 c6 c7' f0 f1 f2 f3 f4 f5 f6 f7 R11 B1
    revert RR BB
    generalize World.setCell _ _ _ = Y9
    intro RR BB
    obtain ⟨e0, e1, e2, e3, e4, e5, e6, e7⟩ := fr_cells RR
    go_wp2
    exact bodyPost_ret (v := .tuple #[.agg #[.int .i64 0, .int .i64 0, .int .i64 0, .int .i64 0, .int .i64 0, .int .i64 0, .int .i64 0, .slice none 0 0], .int .i64 1]) (by simp [results, Try.results35, go_sem, e0, e1, e2, e3, e4, e5, e6, e7]) rfl ⟨_, by simp only [ofV]; rfl, IOwn.nil _ _, by rw [hg]; exact BB⟩
set_option maxHeartbeats 2000000 in
theorem i_of_2i (A : Option Addr) (n c : Nat) (xs ys : List Int) (id T M R S V : Int) (B : Nat) (w : World) (h : IntsAt w B A n c xs) (hB : B ≤ w.heap.size) (hs : stOk T M R S V = true) (hi : idOk id = false) :
    Calls Try.prog 35 #[.slice A n c, .int .i64 id, .agg #[.int .i64 T, .int .i64 M, .int .i64 R, .int .i64 S, .int .i64 V]] w (OFQ w 2 ys) := by
  obtain ⟨R0, R1⟩ := alloc2 w (.cells #[.int .i64 T, .int .i64 M, .int .i64 R, .int .i64 S, .int .i64 V] 30) (.cells #[.int .i64 0, .int .i64 0, .int .i64 0, .int .i64 0, .int .i64 0, .int .i64 0, .int .i64 0, .slice none 0 0] 32)
  have B0 := ((Below.refl w.heap.size w).alloc (Nat.le_refl _) (.cells #[.int .i64 T, .int .i64 M, .int .i64 R, .int .i64 S, .int .i64 V] 30)).alloc (by simp) (.cells #[.int .i64 0, .int .i64 0, .int .i64 0, .int .i64 0, .int .i64 0, .int .i64 0, .int .i64 0, .slice none 0 0] 32)
  have I0 := (h.alloc hB (.cells #[.int .i64 T, .int .i64 M, .int .i64 R, .int .i64 S, .int .i64 V] 30)).alloc (by simp; omega) (.cells #[.int .i64 0, .int .i64 0, .int .i64 0, .int .i64 0, .int .i64 0, .int .i64 0, .int .i64 0, .slice none 0 0] 32)
  have HST := Lib.hid (fun W' => i_IsState T M R S V W')
  have HID := Lib.hid (fun W' => i_isId id W')
  have HBY := Lib.hid (fun W' I => i_IsBytes A n c xs B W' I)
  rw [hs] at HST
  rw [hi] at HID
  clear h hs hi
  go_enter Try.func35, Try.ntmps35
  go_upto_region 1 with fail
  generalize hg : w.heap.size = g at *
  generalize World.alloc _ _ = W at *
  have zW := Below.lt_of' R1
  have zgr : g ≤ g + 1 := by omega
  obtain ⟨s0, s1, s2, s3, s4⟩ := cells5 R0
  obtain ⟨c0, c1, c2, c3, c4, c5, c6, c7'⟩ := fr_cells R1
  go_wp2_with (first
    | (go_at_call 69; refine (HST.out _).mono ?_; rintro e W1 ⟨rfl, b1⟩; have z1 := b1.size; have R11 := (b1.block (g + 1) (by omega)).trans R1; have R01 := (b1.block g (by omega)).trans R0; have B1 := B0.trans (b1.mono (by omega)); have I1 := I0.below' (by omega) b1; obtain ⟨s0, s1, s2, s3, s4⟩ := cells5 R01; obtain ⟨c0, c1, c2, c3, c4, c5, c6, c7'⟩ := fr_cells R11; obtain ⟨f0, f1, f2, f3, f4, f5, f6, f7⟩ := fr_frozen R11)
    | (go_at_call 70; refine (HID.out _).mono ?_; rintro e w' ⟨rfl, rfl⟩)
    | (go_at_call 58; refine (HBY.out _ I1).mono ?_; rintro e w' ⟨rfl, rfl⟩))
  all_goals
    have RR := eight_heap (v0 := .int .i64 0) (v1 := .int .i64 0) (v2 := .int .i64 0) (v3 := .int .i64 0) (v4 := .int .i64 0) (v5 := .int .i64 0) (v6 := .int .i64 0) (v7 := .slice none 0 0) R11
    have BB := below_eight (v0 := .int .i64 0) (v1 := .int .i64 0) (v2 := .int .i64 0) (v3 := .int .i64 0) (v4 := .int .i64 0) (v5 := .int .i64 0) (v6 := .int .i64 0) (v7 := .slice none 0 0) B1 zgr
    clear c0 c1 c2 c3 c4 c5 c6 c7' f0 f1 f2 f3 f4 f5 f6 f7 R11 B1
    revert RR BB
    generalize World.setCell _ _ _ = Y9
    intro RR BB
    obtain ⟨e0, e1, e2, e3, e4, e5, e6, e7⟩ := fr_cells RR
    go_wp2
    exact bodyPost_ret (v := .tuple #[.agg #[.int .i64 0, .int .i64 0, .int .i64 0, .int .i64 0, .int .i64 0, .int .i64 0, .int .i64 0, .slice none 0 0], .int .i64 2]) (by simp [results, Try.results35, go_sem, e0, e1, e2, e3, e4, e5, e6, e7]) rfl ⟨_, by simp only [ofV]; rfl, IOwn.nil _ _, by rw [hg]; exact BB⟩
set_option maxHeartbeats 2000000 in
theorem i_of_2b (A : Option Addr) (n c : Nat) (xs ys : List Int) (id T M R S V : Int) (B : Nat) (w : World) (h : IntsAt w B A n c xs) (hB : B ≤ w.heap.size) (hs : stOk T M R S V = true) (hi : idOk id = true) (hb : bytesOk xs = false) :
    Calls Try.prog 35 #[.slice A n c, .int .i64 id, .agg #[.int .i64 T, .int .i64 M, .int .i64 R, .int .i64 S, .int .i64 V]] w (OFQ w 2 ys) := by
  obtain ⟨R0, R1⟩ := alloc2 w (.cells #[.int .i64 T, .int .i64 M, .int .i64 R, .int .i64 S, .int .i64 V] 30) (.cells #[.int .i64 0, .int .i64 0, .int .i64 0, .int .i64 0, .int .i64 0, .int .i64 0, .int .i64 0, .slice none 0 0] 32)
  have B0 := ((Below.refl w.heap.size w).alloc (Nat.le_refl _) (.cells #[.int .i64 T, .int .i64 M, .int .i64 R, .int .i64 S, .int .i64 V] 30)).alloc (by simp) (.cells #[.int .i64 0, .int .i64 0, .int .i64 0, .int .i64 0, .int .i64 0, .int .i64 0, .int .i64 0, .slice none 0 0] 32)
  have I0 := (h.alloc hB (.cells #[.int .i64 T, .int .i64 M, .int .i64 R, .int .i64 S, .int .i64 V] 30)).alloc (by simp; omega) (.cells #[.int .i64 0, .int .i64 0, .int .i64 0, .int .i64 0, .int .i64 0, .int .i64 0, .int .i64 0, .slice none 0 0] 32)
  have HST := Lib.hid (fun W' => i_IsState T M R S V W')
  have HID := Lib.hid (fun W' => i_isId id W')
  have HBY := Lib.hid (fun W' I => i_IsBytes A n c xs B W' I)
  rw [hs] at HST
  rw [hi] at HID
  rw [hb] at HBY
  clear h hs hi hb
  go_enter Try.func35, Try.ntmps35
  go_upto_region 1 with fail
  generalize hg : w.heap.size = g at *
  generalize World.alloc _ _ = W at *
  have zW := Below.lt_of' R1
  have zgr : g ≤ g + 1 := by omega
  obtain ⟨s0, s1, s2, s3, s4⟩ := cells5 R0
  obtain ⟨c0, c1, c2, c3, c4, c5, c6, c7'⟩ := fr_cells R1
  go_wp2_with (first
    | (go_at_call 69; refine (HST.out _).mono ?_; rintro e W1 ⟨rfl, b1⟩; have z1 := b1.size; have R11 := (b1.block (g + 1) (by omega)).trans R1; have R01 := (b1.block g (by omega)).trans R0; have B1 := B0.trans (b1.mono (by omega)); have I1 := I0.below' (by omega) b1; obtain ⟨s0, s1, s2, s3, s4⟩ := cells5 R01; obtain ⟨c0, c1, c2, c3, c4, c5, c6, c7'⟩ := fr_cells R11; obtain ⟨f0, f1, f2, f3, f4, f5, f6, f7⟩ := fr_frozen R11)
    | (go_at_call 70; refine (HID.out _).mono ?_; rintro e w' ⟨rfl, rfl⟩)
    | (go_at_call 58; refine (HBY.out _ I1).mono ?_; rintro e w' ⟨rfl, rfl⟩))
  all_goals
    have RR := eight_heap (v0 := .int .i64 0) (v1 := .int .i64 0) (v2 := .int .i64 0) (v3 := .int .i64 0) (v4 := .int .i64 0) (v5 := .int .i64 0) (v6 := .int .i64 0) (v7 := .slice none 0 0) R11
    have BB := below_eight (v0 := .int .i64 0) (v1 := .int .i64 0) (v2 := .int .i64 0) (v3 := .int .i64 0) (v4 := .int .i64 0) (v5 := .int .i64 0) (v6 := .int .i64 0) (v7 := .slice none 0 0) B1 zgr
    clear c0 c1 c2 c3 c4 c5 c6 c7' f0 f1 f2 f3 f4 f5 f6 f7 R11 B1
    revert RR BB
    generalize World.setCell _ _ _ = Y9
    intro RR BB
    obtain ⟨e0, e1, e2, e3, e4, e5, e6, e7⟩ := fr_cells RR
    go_wp2
    exact bodyPost_ret (v := .tuple #[.agg #[.int .i64 0, .int .i64 0, .int .i64 0, .int .i64 0, .int .i64 0, .int .i64 0, .int .i64 0, .slice none 0 0], .int .i64 2]) (by simp [results, Try.results35, go_sem, e0, e1, e2, e3, e4, e5, e6, e7]) rfl ⟨_, by simp only [ofV]; rfl, IOwn.nil _ _, by rw [hg]; exact BB⟩
set_option maxHeartbeats 2000000 in
theorem i_of_6 (A : Option Addr) (n c : Nat) (xs ys : List Int) (id T M R S V : Int) (B : Nat) (w : World) (h : IntsAt w B A n c xs) (hB : B ≤ w.heap.size) (hs : stOk T M R S V = true) (hi : idOk id = true) (hb : bytesOk xs = true) (h4 : n < 4) :
    Calls Try.prog 35 #[.slice A n c, .int .i64 id, .agg #[.int .i64 T, .int .i64 M, .int .i64 R, .int .i64 S, .int .i64 V]] w (OFQ w 6 ys) := by
  obtain ⟨R0, R1⟩ := alloc2 w (.cells #[.int .i64 T, .int .i64 M, .int .i64 R, .int .i64 S, .int .i64 V] 30) (.cells #[.int .i64 0, .int .i64 0, .int .i64 0, .int .i64 0, .int .i64 0, .int .i64 0, .int .i64 0, .slice none 0 0] 32)
  have B0 := ((Below.refl w.heap.size w).alloc (Nat.le_refl _) (.cells #[.int .i64 T, .int .i64 M, .int .i64 R, .int .i64 S, .int .i64 V] 30)).alloc (by simp) (.cells #[.int .i64 0, .int .i64 0, .int .i64 0, .int .i64 0, .int .i64 0, .int .i64 0, .int .i64 0, .slice none 0 0] 32)
  have I0 := (h.alloc hB (.cells #[.int .i64 T, .int .i64 M, .int .i64 R, .int .i64 S, .int .i64 V] 30)).alloc (by simp; omega) (.cells #[.int .i64 0, .int .i64 0, .int .i64 0, .int .i64 0, .int .i64 0, .int .i64 0, .int .i64 0, .slice none 0 0] 32)
  have HST := Lib.hid (fun W' => i_IsState T M R S V W')
  have HID := Lib.hid (fun W' => i_isId id W')
  have HBY := Lib.hid (fun W' I => i_IsBytes A n c xs B W' I)
  rw [hs] at HST
  rw [hi] at HID
  rw [hb] at HBY
  have hsm := h.small
  have h5 : (((n : Int) - 3)) < 1 := by omega
  have h6 : IntKind.i64.wrap ((n : Int) - 3) = (n : Int) - 3 := IntWalk.i64_in _ (by omega)
  clear h hs hi hb
  go_enter Try.func35, Try.ntmps35
  go_upto_region 1 with fail
  generalize hg : w.heap.size = g at *
  generalize World.alloc _ _ = W at *
  have zW := Below.lt_of' R1
  have zgr : g ≤ g + 1 := by omega
  obtain ⟨s0, s1, s2, s3, s4⟩ := cells5 R0
  obtain ⟨c0, c1, c2, c3, c4, c5, c6, c7'⟩ := fr_cells R1
  go_wp2_with (first
    | (go_at_call 69; refine (HST.out _).mono ?_; rintro e W1 ⟨rfl, b1⟩; have z1 := b1.size; have R11 := (b1.block (g + 1) (by omega)).trans R1; have R01 := (b1.block g (by omega)).trans R0; have B1 := B0.trans (b1.mono (by omega)); have I1 := I0.below' (by omega) b1; obtain ⟨s0, s1, s2, s3, s4⟩ := cells5 R01; obtain ⟨c0, c1, c2, c3, c4, c5, c6, c7'⟩ := fr_cells R11; obtain ⟨f0, f1, f2, f3, f4, f5, f6, f7⟩ := fr_frozen R11)
    | (go_at_call 70; refine (HID.out _).mono ?_; rintro e w' ⟨rfl, rfl⟩)
    | (go_at_call 58; refine (HBY.out _ I1).mono ?_; rintro e w' ⟨rfl, rfl⟩))
  all_goals
    have RR := eight_heap (v0 := .int .i64 0) (v1 := .int .i64 0) (v2 := .int .i64 0) (v3 := .int .i64 0) (v4 := .int .i64 0) (v5 := .int .i64 0) (v6 := .int .i64 0) (v7 := .slice none 0 0) R11
    have BB := below_eight (v0 := .int .i64 0) (v1 := .int .i64 0) (v2 := .int .i64 0) (v3 := .int .i64 0) (v4 := .int .i64 0) (v5 := .int .i64 0) (v6 := .int .i64 0) (v7 := .slice none 0 0) B1 zgr
    clear c0 c1 c2 c3 c4 c5 c6 c7' f0 f1 f2 f3 f4 f5 f6 f7 R11 B1
    revert RR BB
    generalize World.setCell _ _ _ = Y9
    intro RR BB
    obtain ⟨e0, e1, e2, e3, e4, e5, e6, e7⟩ := fr_cells RR
    go_wp2
    exact bodyPost_ret (v := .tuple #[.agg #[.int .i64 0, .int .i64 0, .int .i64 0, .int .i64 0, .int .i64 0, .int .i64 0, .int .i64 0, .slice none 0 0], .int .i64 6]) (by simp [results, Try.results35, go_sem, e0, e1, e2, e3, e4, e5, e6, e7]) rfl ⟨_, by simp only [ofV]; rfl, IOwn.nil _ _, by rw [hg]; exact BB⟩
set_option maxHeartbeats 2000000 in
theorem s_of_1 (A : Option Addr) (n c : Nat) (xs ys : List Int) (id T M R S V : Int) (B : Nat) (w : World) (h : IntsAt w B A n c xs) (hB : B ≤ w.heap.size) (hs : stOk T M R S V = false) :
    Calls Try.prog 34 #[.slice A n c, .int .i64 id, .agg #[.int .i64 T, .int .i64 M, .int .i64 R, .int .i64 S, .int .i64 V]] w (OFQ w 1 ys) := by
  obtain ⟨R0, R1⟩ := alloc2 w (.cells #[.int .i64 T, .int .i64 M, .int .i64 R, .int .i64 S, .int .i64 V] 30) (.cells #[.int .i64 0, .int .i64 0, .int .i64 0, .int .i64 0, .int .i64 0, .int .i64 0, .int .i64 0, .slice none 0 0] 32)
  have B0 := ((Below.refl w.heap.size w).alloc (Nat.le_refl _) (.cells #[.int .i64 T, .int .i64 M, .int .i64 R, .int .i64 S, .int .i64 V] 30)).alloc (by simp) (.cells #[.int .i64 0, .int .i64 0, .int .i64 0, .int .i64 0, .int .i64 0, .int .i64 0, .int .i64 0, .slice none 0 0] 32)
  have I0 := (h.alloc hB (.cells #[.int .i64 T, .int .i64 M, .int .i64 R, .int .i64 S, .int .i64 V] 30)).alloc (by simp; omega) (.cells #[.int .i64 0, .int .i64 0, .int .i64 0, .int .i64 0, .int .i64 0, .int .i64 0, .int .i64 0, .slice none 0 0] 32)
  have HST := Lib.hid (fun W' => s_IsState T M R S V W')
  have HID := Lib.hid (fun W' => s_isId id W')
  have HBY := Lib.hid (fun W' I => s_IsBytes A n c xs B W' I)
  rw [hs] at HST
  clear HID HBY
  clear h hs
  go_enter Try.func34, Try.ntmps34
  go_upto_region 1 with fail
  generalize hg : w.heap.size = g at *
  generalize World.alloc _ _ = W at *
  have zW := Below.lt_of' R1
  have zgr : g ≤ g + 1 := by omega
  obtain ⟨s0, s1, s2, s3, s4⟩ := cells5 R0
  obtain ⟨c0, c1, c2, c3, c4, c5, c6, c7'⟩ := fr_cells R1
  go_wp2_with (first
    | (go_at_call 66; refine (HST.out _).mono ?_; rintro e W1 ⟨rfl, b1⟩; have z1 := b1.size; have R11 := (b1.block (g + 1) (by omega)).trans R1; have R01 := (b1.block g (by omega)).trans R0; have B1 := B0.trans (b1.mono (by omega)); have I1 := I0.below' (by omega) b1; obtain ⟨s0, s1, s2, s3, s4⟩ := cells5 R01; obtain ⟨c0, c1, c2, c3, c4, c5, c6, c7'⟩ := fr_cells R11; obtain ⟨f0, f1, f2, f3, f4, f5, f6, f7⟩ := fr_frozen R11))
  all_goals
    have RR := eight_heap (v0 := .int .i64 0) (v1 := .int .i64 0) (v2 := .int .i64 0) (v3 := .int .i64 0) (v4 := .int .i64 0) (v5 := .int .i64 0) (v6 := .int .i64 0) (v7 := .slice none 0 0) R11
    have BB := below_eight (v0 := .int .i64 0) (v1 := .int .i64 0) (v2 := .int .i64 0) (v3 := .int .i64 0) (v4 := .int .i64 0) (v5 := .int .i64 0) (v6 := .int .i64 0) (v7 := .slice none 0 0) B1 zgr
    clear c0 c1 c2 c3 c4 c5 c6 c7' f0 f1 f2 f3 f4 f5 f6 f7 R11 B1
    revert RR BB
    generalize World.setCell _ _ _ = Y9
    intro RR BB
    obtain ⟨e0, e1, e2, e3, e4, e5, e6, e7⟩ := fr_cells RR
    go_wp2
    exact bodyPost_ret (v := .tuple #[.agg #[.int .i64 0, .int .i64 0, .int .i64 0, .int .i64 0, .int .i64 0, .int .i64 0, .int .i64 0, .slice none 0 0], .int .i64 1]) (by simp [results, Try.results34, go_sem, e0, e1, e2, e3, e4, e5, e6, e7]) rfl ⟨_, by simp only [ofV]; rfl, IOwn.nil _ _, by rw [hg]; exact BB⟩
set_option maxHeartbeats 2000000 in
theorem s_of_2i (A : Option Addr) (n c : Nat) (xs ys : List Int) (id T M R S V : Int) (B : Nat) (w : World) (h : IntsAt w B A n c xs) (hB : B ≤ w.heap.size) (hs : stOk T M R S V = true) (hi : idOk id = false) :
    Calls Try.prog 34 #[.slice A n c, .int .i64 id, .agg #[.int .i64 T, .int .i64 M, .int .i64 R, .int .i64 S, .int .i64 V]] w (OFQ w 2 ys) := by
  obtain ⟨R0, R1⟩ := alloc2 w (.cells #[.int .i64 T, .int .i64 M, .int .i64 R, .int .i64 S, .int .i64 V] 30) (.cells #[.int .i64 0, .int .i64 0, .int .i64 0, .int .i64 0, .int .i64 0, .int .i64 0, .int .i64 0, .slice none 0 0] 32)
  have B0 := ((Below.refl w.heap.size w).alloc (Nat.le_refl _) (.cells #[.int .i64 T, .int .i64 M, .int .i64 R, .int .i64 S, .int .i64 V] 30)).alloc (by simp) (.cells #[.int .i64 0, .int .i64 0, .int .i64 0, .int .i64 0, .int .i64 0, .int .i64 0, .int .i64 0, .slice none 0 0] 32)
  have I0 := (h.alloc hB (.cells #[.int .i64 T, .int .i64 M, .int .i64 R, .int .i64 S, .int .i64 V] 30)).alloc (by simp; omega) (.cells #[.int .i64 0, .int .i64 0, .int .i64 0, .int .i64 0, .int .i64 0, .int .i64 0, .int .i64 0, .slice none 0 0] 32)
  have HST := Lib.hid (fun W' => s_IsState T M R S V W')
  have HID := Lib.hid (fun W' => s_isId id W')
  have HBY := Lib.hid (fun W' I => s_IsBytes A n c xs B W' I)
  rw [hs] at HST
  rw [hi] at HID
  clear h hs hi
  go_enter Try.func34, Try.ntmps34
  go_upto_region 1 with fail
  generalize hg : w.heap.size = g at *
  generalize World.alloc _ _ = W at *
  have zW := Below.lt_of' R1
  have zgr : g ≤ g + 1 := by omega
  obtain ⟨s0, s1, s2, s3, s4⟩ := cells5 R0
  obtain ⟨c0, c1, c2, c3, c4, c5, c6, c7'⟩ := fr_cells R1
  go_wp2_with (first
    | (go_at_call 66; refine (HST.out _).mono ?_; rintro e W1 ⟨rfl, b1⟩; have z1 := b1.size; have R11 := (b1.block (g + 1) (by omega)).trans R1; have R01 := (b1.block g (by omega)).trans R0; have B1 := B0.trans (b1.mono (by omega)); have I1 := I0.below' (by omega) b1; obtain ⟨s0, s1, s2, s3, s4⟩ := cells5 R01; obtain ⟨c0, c1, c2, c3, c4, c5, c6, c7'⟩ := fr_cells R11; obtain ⟨f0, f1, f2, f3, f4, f5, f6, f7⟩ := fr_frozen R11)
    | (go_at_call 67; refine (HID.out _).mono ?_; rintro e w' ⟨rfl, rfl⟩)
    | (go_at_call 56; refine (HBY.out _ I1).mono ?_; rintro e w' ⟨rfl, rfl⟩))
  all_goals
    have RR := eight_heap (v0 := .int .i64 0) (v1 := .int .i64 0) (v2 := .int .i64 0) (v3 := .int .i64 0) (v4 := .int .i64 0) (v5 := .int .i64 0) (v6 := .int .i64 0) (v7 := .slice none 0 0) R11
    have BB := below_eight (v0 := .int .i64 0) (v1 := .int .i64 0) (v2 := .int .i64 0) (v3 := .int .i64 0) (v4 := .int .i64 0) (v5 := .int .i64 0) (v6 := .int .i64 0) (v7 := .slice none 0 0) B1 zgr
    clear c0 c1 c2 c3 c4 c5 c6 c7' f0 f1 f2 f3 f4 f5 f6 f7 R11 B1
    revert RR BB
    generalize World.setCell _ _ _ = Y9
    intro RR BB
    obtain ⟨e0, e1, e2, e3, e4, e5, e6, e7⟩ := fr_cells RR
    go_wp2
    exact bodyPost_ret (v := .tuple #[.agg #[.int .i64 0, .int .i64 0, .int .i64 0, .int .i64 0, .int .i64 0, .int .i64 0, .int .i64 0, .slice none 0 0], .int .i64 2]) (by simp [results, Try.results34, go_sem, e0, e1, e2, e3, e4, e5, e6, e7]) rfl ⟨_, by simp only [ofV]; rfl, IOwn.nil _ _, by rw [hg]; exact BB⟩
set_option maxHeartbeats 2000000 in
theorem s_of_2b (A : Option Addr) (n c : Nat) (xs ys : List Int) (id T M R S V : Int) (B : Nat) (w : World) (h : IntsAt w B A n c xs) (hB : B ≤ w.heap.size) (hs : stOk T M R S V = true) (hi : idOk id = true) (hb : bytesOk xs = false) :
    Calls Try.prog 34 #[.slice A n c, .int .i64 id, .agg #[.int .i64 T, .int .i64 M, .int .i64 R, .int .i64 S, .int .i64 V]] w (OFQ w 2 ys) := by
  obtain ⟨R0, R1⟩ := alloc2 w (.cells #[.int .i64 T, .int .i64 M, .int .i64 R, .int .i64 S, .int .i64 V] 30) (.cells #[.int .i64 0, .int .i64 0, .int .i64 0, .int .i64 0, .int .i64 0, .int .i64 0, .int .i64 0, .slice none 0 0] 32)
  have B0 := ((Below.refl w.heap.size w).alloc (Nat.le_refl _) (.cells #[.int .i64 T, .int .i64 M, .int .i64 R, .int .i64 S, .int .i64 V] 30)).alloc (by simp) (.cells #[.int .i64 0, .int .i64 0, .int .i64 0, .int .i64 0, .int .i64 0, .int .i64 0, .int .i64 0, .slice none 0 0] 32)
  have I0 := (h.alloc hB (.cells #[.int .i64 T, .int .i64 M, .int .i64 R, .int .i64 S, .int .i64 V] 30)).alloc (by simp; omega) (.cells #[.int .i64 0, .int .i64 0, .int .i64 0, .int .i64 0, .int .i64 0, .int .i64 0, .int .i64 0, .slice none 0 0] 32)
  have HST := Lib.hid (fun W' => s_IsState T M R S V W')
  have HID := Lib.hid (fun W' => s_isId id W')
  have HBY := Lib.hid (fun W' I => s_IsBytes A n c xs B W' I)
  rw [hs] at HST
  rw [hi] at HID
  rw [hb] at HBY
  clear h hs hi hb
  go_enter Try.func34, Try.ntmps34
  go_upto_region 1 with fail
  generalize hg : w.heap.size = g at *
  generalize World.alloc _ _ = W at *
  have zW := Below.lt_of' R1
  have zgr : g ≤ g + 1 := by omega
  obtain ⟨s0, s1, s2, s3, s4⟩ := cells5 R0
  obtain ⟨c0, c1, c2, c3, c4, c5, c6, c7'⟩ := fr_cells R1
  go_wp2_with (first
    | (go_at_call 66; refine (HST.out _).mono ?_; rintro e W1 ⟨rfl, b1⟩; have z1 := b1.size; have R11 := (b1.block (g + 1) (by omega)).trans R1; have R01 := (b1.block g (by omega)).trans R0; have B1 := B0.trans (b1.mono (by omega)); have I1 := I0.below' (by omega) b1; obtain ⟨s0, s1, s2, s3, s4⟩ := cells5 R01; obtain ⟨c0, c1, c2, c3, c4, c5, c6, c7'⟩ := fr_cells R11; obtain ⟨f0, f1, f2, f3, f4, f5, f6, f7⟩ := fr_frozen R11)
    | (go_at_call 67; refine (HID.out _).mono ?_; rintro e w' ⟨rfl, rfl⟩)
    | (go_at_call 56; refine (HBY.out _ I1).mono ?_; rintro e w' ⟨rfl, rfl⟩))
  all_goals
    have RR := eight_heap (v0 := .int .i64 0) (v1 := .int .i64 0) (v2 := .int .i64 0) (v3 := .int .i64 0) (v4 := .int .i64 0) (v5 := .int .i64 0) (v6 := .int .i64 0) (v7 := .slice none 0 0) R11
    have BB := below_eight (v0 := .int .i64 0) (v1 := .int .i64 0) (v2 := .int .i64 0) (v3 := .int .i64 0) (v4 := .int .i64 0) (v5 := .int .i64 0) (v6 := .int .i64 0) (v7 := .slice none 0 0) B1 zgr
    clear c0 c1 c2 c3 c4 c5 c6 c7' f0 f1 f2 f3 f4 f5 f6 f7 R11 B1
    revert RR BB
    generalize World.setCell _ _ _ = Y9
    intro RR BB
    obtain ⟨e0, e1, e2, e3, e4, e5, e6, e7⟩ := fr_cells RR
    go_wp2
    exact bodyPost_ret (v := .tuple #[.agg #[.int .i64 0, .int .i64 0, .int .i64 0, .int .i64 0, .int .i64 0, .int .i64 0, .int .i64 0, .slice none 0 0], .int .i64 2]) (by simp [results, Try.results34, go_sem, e0, e1, e2, e3, e4, e5, e6, e7]) rfl ⟨_, by simp only [ofV]; rfl, IOwn.nil _ _, by rw [hg]; exact BB⟩
set_option maxHeartbeats 1000000 in
theorem s_l07_short (A : Option Addr) (n c : Nat) (ys : List Int) (id T M R S V : Int) (w : World) (hsm : n < 4) :
    Calls Try.prog 68 #[.slice A n c, .int .i64 id, .agg #[.int .i64 T, .int .i64 M, .int .i64 R, .int .i64 S, .int .i64 V]] w (OFQ w 6 ys) := by
  obtain ⟨R0, R1⟩ := alloc2 w (.cells #[.int .i64 T, .int .i64 M, .int .i64 R, .int .i64 S, .int .i64 V] 30) (.cells #[.int .i64 0, .int .i64 0, .int .i64 0, .int .i64 0, .int .i64 0, .int .i64 0, .int .i64 0, .slice none 0 0] 32)
  have B0 := ((Below.refl w.heap.size w).alloc (Nat.le_refl _) (.cells #[.int .i64 T, .int .i64 M, .int .i64 R, .int .i64 S, .int .i64 V] 30)).alloc (by simp) (.cells #[.int .i64 0, .int .i64 0, .int .i64 0, .int .i64 0, .int .i64 0, .int .i64 0, .int .i64 0, .slice none 0 0] 32)
  have h5 : (((n : Int) - 3)) < 1 := by omega
  have h6 : IntKind.i64.wrap ((n : Int) - 3) = (n : Int) - 3 := IntWalk.i64_in _ (by omega)
  go_enter Try.func68, Try.ntmps68
  go_upto_region 1 with fail
  generalize hg : w.heap.size = g at *
  generalize World.alloc _ _ = W at *
  have zgr : g ≤ g + 1 := by omega
  obtain ⟨c0, c1, c2, c3, c4, c5, c6, c7'⟩ := fr_cells R1
  obtain ⟨f0, f1, f2, f3, f4, f5, f6, f7⟩ := fr_frozen R1
  go_wp2_with fail
  all_goals
    have RR := eight_heap (v0 := .int .i64 0) (v1 := .int .i64 0) (v2 := .int .i64 0) (v3 := .int .i64 0) (v4 := .int .i64 0) (v5 := .int .i64 0) (v6 := .int .i64 0) (v7 := .slice none 0 0) R1
    have BB := below_eight (v0 := .int .i64 0) (v1 := .int .i64 0) (v2 := .int .i64 0) (v3 := .int .i64 0) (v4 := .int .i64 0) (v5 := .int .i64 0) (v6 := .int .i64 0) (v7 := .slice none 0 0) B0 zgr
    clear c0 c1 c2 c3 c4 c5 c6 c7' f0 f1 f2 f3 f4 f5 f6 f7 R1 B0
    revert RR BB
    generalize World.setCell _ _ _ = Y9
    intro RR BB
    obtain ⟨e0, e1, e2, e3, e4, e5, e6, e7⟩ := fr_cells RR
    go_wp2
    exact bodyPost_ret (v := .tuple #[.agg #[.int .i64 0, .int .i64 0, .int .i64 0, .int .i64 0, .int .i64 0, .int .i64 0, .int .i64 0, .slice none 0 0], .int .i64 6]) (by simp [results, Try.results68, go_sem, e0, e1, e2, e3, e4, e5, e6, e7]) rfl ⟨_, by simp only [ofV]; rfl, IOwn.nil _ _, by rw [hg]; exact BB⟩
end Go.Proofs.Ytpcdachkmekjgaa

/- The walk of the law on IsFrame. -/
import Derived.Test.YtecelofoffdjlaaFrmH
import Derived.Deep.RegionHeld3
import Derived.RegionTactic
import Derived.BigRegion
namespace Go.Proofs.Ytecelofoffdjlaa
open Go.RowKit
set_option linter.unusedSimpArgs false
set_option linter.unusedVariables false
set_option maxHeartbeats 2000000 in
theorem w_IsFrame (k q t m r s v : Int) (A : Option Addr) (n c : Nat) (xs : List Int) (w : World) (w0 : ArgInts w A n c xs) :
    Calls Try.prog 8 #[.agg #[.int .i64 k, .int .i64 q, .int .i64 t, .int .i64 m, .int .i64 r, .int .i64 s, .int .i64 v, .slice A n c]] w fun e w' => e = .returned (.bool true) ∧ Below w.heap.size w w' := by
  have hm : n ≤ maxLen := Nat.le_trans w0.1 w0.2.1
  by_cases hbig : 1048576 < n
  · have hs : decide ((1048576 : Int) - n < 0) = true := by simp; omega
    clear w0
    go_enter Try.func8, Try.ntmps8
    go_wp2_with fail
    refine (h_szFrame_no k q t m r s v A n c _ hbig hm).mono ?_
    rintro e w1 ⟨rfl, hb⟩
    go_wp2
    go_ret
    exact ⟨rfl, ((Below.refl _ _).alloc (Nat.le_refl _) _).trans (hb.mono (by simp))⟩
  · have hI := w0.2.2.2.2 (by omega)
    clear w0 hm
    have hzl : xs.length ≤ 16777216 := by rw [hI.len]; exact hI.small
    go_enter Try.func8, Try.ntmps8
    go_wp2_with fail
    refine (h_szFrame_yes k q t m r s v A n c _ (by omega)).mono ?_
    rintro e w1 ⟨rfl, hb⟩
    have R1 := (hb.block w.heap.size (by simp)).trans (heap_alloc_new w _)
    have B1 : Below w.heap.size w w1 := ((Below.refl _ _).alloc (Nat.le_refl _) _).trans (hb.mono (by simp))
    have z1 := Below.lt_of' R1
    have I1 := hI.below B1
    obtain ⟨c0, c1, c2, c3, c4, c5, c6, c7⟩ := fr_cells R1
    clear hb
    go_wp2_with fail
    refine (h_toFrame k q t m r s v A n c xs _ _ I1 (by omega)).mono ?_
    rintro e w2 ⟨vs, rfl, ho, hb⟩
    obtain ⟨As, cs, rfl, I⟩ := ho.ints hzl
    have R2 := (hb.block w.heap.size z1).trans R1
    have B2 := B1.trans (hb.mono (by omega))
    have z2 := Below.lt_of' R2
    clear c0 c1 c2 c3 c4 c5 c6 c7 R1 B1 I1 ho hb
    go_wp2_with fail
    refine (s_IsFrame k q t m r s v _ _ _ _ _ _ I (Nat.le_refl _)).mono ?_
    rintro e w3 ⟨rfl, hb⟩
    have R3 := (hb.block w.heap.size z2).trans R2
    have B3 := B2.trans (hb.mono (by omega))
    have z3 := Below.lt_of' R3
    have I3 := hI.below B3
    obtain ⟨c0, c1, c2, c3, c4, c5, c6, c7⟩ := fr_cells R3
    clear I R2 B2 z2 hb
    go_wp2_with fail
    refine (h_toFrame k q t m r s v A n c xs _ _ I3 (by omega)).mono ?_
    rintro e w4 ⟨vs, rfl, ho, hb⟩
    obtain ⟨Ax, cx, rfl, I⟩ := ho.ints hzl
    have z4 := hb.size
    have R4 := (Below.heap_alloc w4 (.cells #[.int .i64 k, .int .i64 q, .int .i64 t, .int .i64 m, .int .i64 r, .int .i64 s, .int .i64 v, .slice Ax xs.length cx] 47) w.heap.size (by omega)).trans ((hb.block w.heap.size z3).trans R3)
    have P4 := heap_alloc_new w4 (.cells #[.int .i64 k, .int .i64 q, .int .i64 t, .int .i64 m, .int .i64 r, .int .i64 s, .int .i64 v, .slice Ax xs.length cx] 47)
    have B4 := (B3.trans (hb.mono (by omega))).alloc (by omega) (.cells #[.int .i64 k, .int .i64 q, .int .i64 t, .int .i64 m, .int .i64 r, .int .i64 s, .int .i64 v, .slice Ax xs.length cx] 47)
    have X4 := I.alloc (Nat.le_refl _) (.cells #[.int .i64 k, .int .i64 q, .int .i64 t, .int .i64 m, .int .i64 r, .int .i64 s, .int .i64 v, .slice Ax xs.length cx] 47)
    have y4 : w4.heap.size < (w4.alloc (.cells #[.int .i64 k, .int .i64 q, .int .i64 t, .int .i64 m, .int .i64 r, .int .i64 s, .int .i64 v, .slice Ax xs.length cx] 47)).heap.size := by simp
    clear c0 c1 c2 c3 c4 c5 c6 c7 R3 B3 I3 ho hb I
    go_wp2_with fail
    generalize w4.alloc _ = W at R4 P4 B4 X4 y4 ⊢
    generalize w4.heap.size = g at P4 X4 y4 z4 ⊢
    refine (i_IsFrame k q t m r s v _ _ _ _ _ _ X4 (by omega)).mono ?_
    rintro e w5 ⟨rfl, hb⟩
    have z5 := hb.size
    have R5 := (hb.block w.heap.size (by omega)).trans R4
    have P5 := (hb.block g (by omega)).trans P4
    have B5 := B4.trans (hb.mono (by omega))
    have X5 := X4.below' (by omega) hb
    have I5 := hI.below B5
    clear R4 P4 B4 X4 hb
    obtain ⟨c0, c1, c2, c3, c4, c5, c6, c7⟩ := fr_cells R5
    obtain ⟨d0, d1, d2, d3, d4, d5, d6, d7⟩ := fr_cells P5
    have R5' := Lib.hid R5; have P5' := Lib.hid P5; have B5' := Lib.hid B5; have X5' := Lib.hid X5; have I5' := Lib.hid I5
    clear R5 P5 B5 X5 I5 hI
    have hT : ∀ W' : World, (∃ N, W' = w5.drewN N) → Calls Try.prog 28 #[.agg #[.int .i64 k, .int .i64 q, .int .i64 t, .int .i64 m, .int .i64 r, .int .i64 s, .int .i64 v, .slice A n c]] W' fun e w' => ∃ At ct, e = .returned (.agg #[.int .i64 k, .int .i64 q, .int .i64 t, .int .i64 m, .int .i64 r, .int .i64 s, .int .i64 v, .slice At xs.length ct]) ∧
        IntsAt w' w'.heap.size At xs.length ct xs ∧ IntsAt w' g Ax xs.length cx xs ∧ Below w.heap.size w w' ∧ g ≤ w'.heap.size ∧ w'.heap[g]? = some (.cells #[.int .i64 k, .int .i64 q, .int .i64 t, .int .i64 m, .int .i64 r, .int .i64 s, .int .i64 v, .slice Ax xs.length cx] 47 (0, 0)) := by
      rintro W' ⟨N, rfl⟩
      refine (h_toFrame k q t m r s v A n c xs _ (w5.drewN N) (I5'.out.drewN N) (by show _ ≤ w5.heap.size; omega)).mono ?_
      rintro e w6 ⟨vs, rfl, ho, hb0⟩
      obtain ⟨At, ct, rfl, I⟩ := ho.ints hzl
      have hb : Below w5.heap.size w5 w6 := ⟨hb0.os, hb0.tape, hb0.output, hb0.size, hb0.block⟩
      have := hb.size
      exact ⟨At, ct, rfl, I, X5'.out.below' (by omega) hb, B5'.out.trans (hb.mono (by omega)), by omega, (hb.block g (by omega)).trans P5'.out⟩
    have HT := Lib.hid hT; clear hT
    go_wp2_with fail
    go_region_with (first | (go_at_call 28; refine (HT.out _ ?_).mono ?_; (first | exact ⟨0, rfl⟩ | exact ⟨1, rfl⟩ | exact ⟨2, rfl⟩); rintro e w6 ⟨At, ct, rfl, I6, X6, B6, z6, P6⟩; (try clear d0 d1 d2 d3 d4 d5 d6 d7); obtain ⟨d0, d1, d2, d3, d4, d5, d6, d7⟩ := fr_cells P6) | (go_at_call 30; refine (h_eqFrame k q t m r s v _ _ _ _ _ _ xs _ _ _ X6 I6 z6 (Nat.le_refl _)).mono ?_; rintro e w7 ⟨rfl, hb7⟩))
    all_goals go_wp2
    all_goals (go_ret; exact ⟨rfl, B6.trans (hb7.mono B6.size)⟩)
end Go.Proofs.Ytecelofoffdjlaa

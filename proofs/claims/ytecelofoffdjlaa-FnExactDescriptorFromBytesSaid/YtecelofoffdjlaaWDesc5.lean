/- The walk of the law on DescriptorFromBytes. -/
import Derived.Test.YtecelofoffdjlaaDesc5
namespace Go.Proofs.Ytecelofoffdjlaa
open Go.RowKit
set_option linter.unusedSimpArgs false
set_option linter.unusedVariables false
theorem h_eqDescriptor (a b c d : Int) (e : Bool) (w : World) :
    Calls Try.prog 25 #[.agg #[.int .i64 a, .int .i64 b, .int .i64 c, .int .i64 d, .bool e], .agg #[.int .i64 a, .int .i64 b, .int .i64 c, .int .i64 d, .bool e]] w fun e w' => e = .returned (.bool true) ∧ Below w.heap.size w w' := by
  cases e
  all_goals
    go_enter Try.func25, Try.ntmps25
    go_wp2
    go_ret
    exact ⟨rfl, ((Below.refl _ _).alloc (Nat.le_refl _) _).alloc (by simp) _⟩
set_option maxHeartbeats 1000000 in
theorem w_DescriptorFromBytes (a0 : Option Addr) (len0 cap0 : Nat) (z0 : List Int) (w : World) (w0 : ArgInts w a0 len0 cap0 z0) :
    Calls Try.prog 5 #[.slice a0 len0 cap0] w fun e w' => e = .returned (.bool true) ∧ Below w.heap.size w w' := by
  by_cases hbig : 1048576 < len0
  · clear w0
    go_enter Try.func5, Try.ntmps5
    go_wp2
    go_ret
    exact ⟨rfl, Below.refl _ _⟩
  · have hI := w0.2.2.2.2 (by omega)
    clear w0
    have hzl : z0.length ≤ 16777216 := by rw [hI.len]; exact hI.small
    have hez := eqL_refl z0
    obtain ⟨a, b, c, d, e, hv⟩ := dfb_form z0
    generalize hC : dfbC z0 = C
    have HV := Lib.hid hv; have HC := Lib.hid hC
    clear hv hC
    go_enter Try.func5, Try.ntmps5
    go_wp2_with fail
    refine (h_toInt64S _ _ _ _ _ _ hI (Nat.le_refl _)).mono ?_
    rintro e w1 ⟨vs, rfl, hos, hbs⟩
    obtain ⟨As, cs, rfl, hs⟩ := hos.ints hzl
    have hI1 := hI.below hbs
    have z1 := hbs.size
    go_wp2_with fail
    refine (s_DescriptorFromBytes _ _ _ _ _ _ hs (Nat.le_refl _)).mono ?_
    rintro e w2 ⟨rfl, hb0⟩
    rw [HV.out, HC.out]
    have z2 := hb0.size
    have q2 := heap_alloc_new w2 (.cells #[.int .i64 a, .int .i64 b, .int .i64 c, .int .i64 d, .bool e] 26)
    have hB2 := (hbs.trans (hb0.mono z1)).alloc (Nat.le_trans z1 z2) (.cells #[.int .i64 a, .int .i64 b, .int .i64 c, .int .i64 d, .bool e] 26)
    have hI2 := (hI1.below' z1 hb0).alloc (Nat.le_trans z1 z2) (.cells #[.int .i64 a, .int .i64 b, .int .i64 c, .int .i64 d, .bool e] 26)
    have y2 : w2.heap.size < (w2.alloc (.cells #[.int .i64 a, .int .i64 b, .int .i64 c, .int .i64 d, .bool e] 26)).heap.size := by simp
    clear hos hs hb0 hbs hI1 hI
    go_wp2_with fail
    generalize w2.alloc (.cells #[.int .i64 a, .int .i64 b, .int .i64 c, .int .i64 d, .bool e] 26) = w3 at q2 hB2 hI2 y2 ⊢
    generalize hg2 : w2.heap.size = g2 at q2 y2 z2 ⊢
    clear hg2
    refine (h_toInt64S _ _ _ _ _ _ hI2 (by omega)).mono ?_
    rintro e w4 ⟨vx, rfl, hox, hbx⟩
    obtain ⟨Ax, cx, rfl, hx⟩ := hox.ints hzl
    have hI4 := hI2.below' (by omega) hbx
    have z4 := hbx.size
    have hB4 := hB2.trans (hbx.mono (by omega))
    have q4 := (hbx.block g2 (by omega)).trans q2
    clear hbx hB2 q2 hI2
    go_wp2_with fail
    refine (i_DescriptorFromBytes _ _ _ _ _ _ hx (Nat.le_refl _)).mono ?_
    rintro e w5 ⟨rfl, hb1⟩
    rw [HV.out, HC.out]
    have z5 := hb1.size
    have q5 := (Below.heap_alloc w5 (.cells #[.int .i64 a, .int .i64 b, .int .i64 c, .int .i64 d, .bool e] 26) g2 (by omega)).trans ((hb1.block g2 (by omega)).trans q4)
    have p5 := heap_alloc_new w5 (.cells #[.int .i64 a, .int .i64 b, .int .i64 c, .int .i64 d, .bool e] 26)
    have hI5 := (hI4.below' (by omega) hb1).alloc (by omega) (.cells #[.int .i64 a, .int .i64 b, .int .i64 c, .int .i64 d, .bool e] 26)
    have hx5 := (hx.below hb1).alloc (by omega) (.cells #[.int .i64 a, .int .i64 b, .int .i64 c, .int .i64 d, .bool e] 26)
    have hB5 := (hB4.trans (hb1.mono (by omega))).alloc (by omega) (.cells #[.int .i64 a, .int .i64 b, .int .i64 c, .int .i64 d, .bool e] 26)
    have y5 : w5.heap.size < (w5.alloc (.cells #[.int .i64 a, .int .i64 b, .int .i64 c, .int .i64 d, .bool e] 26)).heap.size := by simp
    obtain ⟨c0, c1, c2, c3, c4⟩ := desc_cells q5
    obtain ⟨d0, d1, d2, d3, d4⟩ := desc_cells p5
    have Q5 := Lib.hid q5; have P5 := Lib.hid p5
    clear hb1 hB4 hx hox q4 hI4 q5 p5
    go_wp2_with fail
    refine (h_eqDescriptor a b c d _ _).mono ?_
    rintro e w6 ⟨rfl, hb6⟩
    have z6 := hb6.size
    have hI6 := hI5.below' (by omega) hb6
    have hx6 := hx5.below' (by omega) hb6
    have hB6 := hB5.trans (hb6.mono (by omega))
    clear hb6 hB5 hI5 hx5 c0 c1 c2 c3 c4 d0 d1 d2 d3 d4
    go_wp2_with fail
    refine (h_toInt64S _ _ _ _ _ _ hI6 (by omega)).mono ?_
    rintro e w7 ⟨vt, rfl, hot, hbt⟩
    obtain ⟨At, ct, rfl, ht⟩ := hot.ints hzl
    have hx7 := hx6.below' (by omega) hbt
    have hB7 := hB6.trans (hbt.mono (by omega))
    clear hot hbt hB6
    go_wp2_with fail
    refine (h_eqInt64S _ _ _ _ _ _ _ _ _ _ _ hx7 ht).mono ?_
    rintro e w8 ⟨rfl, m7, rfl⟩
    go_wp2_with fail
    go_ret
    exact ⟨rfl, below_drewN hB7 m7⟩
end Go.Proofs.Ytecelofoffdjlaa

/- The walks of the laws on PauseOf and DescriptorToBytes. -/
import Derived.Test.YtffmdkkceiodaaaDesc2
namespace Go.Proofs.Ytffmdkkceiodaaa
open Go.RowKit
set_option linter.unusedSimpArgs false
set_option linter.unusedVariables false
theorem w_PauseOf (nd k sz du : Int) (ch : Bool) (w : World) (q0 : (Lit.int .i64 nd).wf = true) (q1 : (Lit.int .i64 k).wf = true) (q2 : (Lit.int .i64 sz).wf = true) (q3 : (Lit.int .i64 du).wf = true) :
    Calls Try.prog 3 #[.agg #[.int .i64 nd, .int .i64 k, .int .i64 sz, .int .i64 du, .bool ch]] w fun e w' => e = .returned (.bool true) ∧ Below w.heap.size w w' := by
  clear q0 q1 q2 q3
  go_enter Try.func3, Try.ntmps3
  go_wp2_with fail
  refine (h_toDescriptor nd k sz du ch _).mono ?_
  rintro e w1 ⟨rfl, hb1⟩
  have z1 := hb1.size
  go_wp2_with fail
  refine (s_PauseOf nd k sz du ch _).mono ?_
  rintro e w2 ⟨rfl, hb2⟩
  have z2 := hb2.size
  have hc : w2.heap[w.heap.size]? = some (.cells #[.int .i64 nd, .int .i64 k, .int .i64 sz, .int .i64 du, .bool ch] 23) := by
    rw [hb2.block _ (by simp at z1; omega), hb1.block _ (by simp)]
    exact heap_alloc_new w _
  obtain ⟨c0, c1, c2, c3, c4⟩ := desc_cells hc
  have hB2 : Below w.heap.size w w2 := (((Below.refl _ _).alloc (Nat.le_refl _) _).trans (hb1.mono (by simp))).trans (hb2.mono (by simp at z1; omega))
  have y2 : w.heap.size < w2.heap.size := by simp at z1; omega
  clear hc hb1 hb2 z1 z2
  go_wp2_with fail
  refine (h_toDescriptor nd k sz du ch _).mono ?_
  rintro e w3 ⟨rfl, hb3⟩
  have z3 := hb3.size
  clear c0 c1 c2 c3 c4
  go_wp2_with fail
  refine (i_PauseOf nd k sz du ch _).mono ?_
  rintro e w4 ⟨rfl, hb4⟩
  go_wp2_with fail
  go_ret
  exact ⟨rfl, (hB2.trans (hb3.mono (by omega))).trans (hb4.mono (by omega))⟩
set_option maxHeartbeats 1000000 in
theorem w_DescriptorToBytes (nd k sz du : Int) (ch : Bool) (w : World) (q0 : (Lit.int .i64 nd).wf = true) (q1 : (Lit.int .i64 k).wf = true) (q2 : (Lit.int .i64 sz).wf = true) (q3 : (Lit.int .i64 du).wf = true) :
    Calls Try.prog 4 #[.agg #[.int .i64 nd, .int .i64 k, .int .i64 sz, .int .i64 du, .bool ch]] w fun e w' => e = .returned (.bool true) ∧ Below w.heap.size w w' := by
  clear q0 q1 q2 q3
  have hL : (descR nd k sz du ch).length ≤ 16777216 := Nat.le_trans (descR_len nd k sz du ch) (by omega)
  have he := eqL_refl (descR nd k sz du ch)
  go_enter Try.func4, Try.ntmps4
  go_wp2_with fail
  refine (h_toDescriptor nd k sz du ch _).mono ?_
  rintro e w1 ⟨rfl, hb1⟩
  have z1 := hb1.size
  have hc1 : w1.heap[w.heap.size]? = some (.cells #[.int .i64 nd, .int .i64 k, .int .i64 sz, .int .i64 du, .bool ch] 23) := by
    rw [hb1.block _ (by simp)]
    exact heap_alloc_new w _
  have hB1 : Below w.heap.size w w1 := ((Below.refl _ _).alloc (Nat.le_refl _) _).trans (hb1.mono (by simp))
  simp at z1
  clear hb1
  have Hc1 := Lib.hid hc1; clear hc1
  go_wp2_with fail
  refine (s_DescriptorToBytes nd k sz du ch _).mono ?_
  rintro e w2 ⟨v0, rfl, ho0, hb2⟩
  obtain ⟨A0, d0, rfl, h0⟩ := ho0.ints hL
  have z2 := hb2.size
  have hc2 := (hb2.block w.heap.size (by omega)).trans Hc1.out
  have hB2 := hB1.trans (hb2.mono (by omega))
  obtain ⟨c0, c1, c2, c3, c4⟩ := desc_cells hc2
  have Hc2 := Lib.hid hc2; clear hc2 hb2 hB1
  go_wp2_with fail
  refine (h_toDescriptor nd k sz du ch _).mono ?_
  rintro e w3 ⟨rfl, hb3⟩
  have z3 := hb3.size
  have h03 := h0.below hb3
  have Hc3 := Lib.hid ((hb3.block w.heap.size (by omega)).trans Hc2.out)
  have hB3 := hB2.trans (hb3.mono (by omega))
  clear c0 c1 c2 c3 c4 hB2 hb3
  go_wp2_with fail
  refine (i_DescriptorToBytes nd k sz du ch _).mono ?_
  rintro e w4 ⟨v1, rfl, ho1, hb4⟩
  obtain ⟨A1, d1, rfl, h1⟩ := ho1.ints hL
  have z4 := hb4.size
  have h04 := h03.below' z3 hb4
  have Hc4 := Lib.hid ((hb4.block w.heap.size (by omega)).trans Hc3.out)
  have hB4 := hB3.trans (hb4.mono (by omega))
  clear hB3 hb4
  go_wp2_with fail
  refine (h_eqInt64S _ _ _ _ _ _ _ _ _ _ _ h1 h04).mono ?_
  rintro e w5 ⟨rfl, m5, rfl⟩
  go_wp2_with fail
  refine (h_markInt64S _ _ _ 1 _ (ho1.drewN m5) (by omega) (by omega) hL).mono ?_
  rintro e w6 ⟨rfl, ho6, hg6⟩
  have hg6' : w4.grownBy w6 (Value.slice A1 (descR nd k sz du ch).length d1).ownBlock := ⟨hg6.os, hg6.tape, hg6.output, hg6.size, hg6.block⟩
  have hl1 := ho1.lt
  have h06 := h04.grown hg6' (by omega) (fun g hg => by have := hl1 g hg; omega)
  have z6 : w4.heap.size ≤ w6.heap.size := hg6'.size
  have hB6 := hB4.trans (grown_below hg6' (by omega) (fun g hg => by have := hl1 g hg; omega))
  have hc6 := (hg6'.block w.heap.size (by omega) (fun e => by have := hl1 _ e.symm; omega)).trans Hc4.out
  obtain ⟨A6, d6, e6, h6⟩ := ho6.ints (by rw [marksL_len]; exact hL)
  rw [marksL_len] at e6 h6
  injection e6 with e61 e62 e63
  subst e61 e63
  clear e62 hg6 hg6' hB4 h04 ho1 ho6
  obtain ⟨c0, c1, c2, c3, c4⟩ := desc_cells hc6
  have Hc6 := Lib.hid hc6; clear hc6
  go_wp2_with fail
  refine (h_heldInt64S _ _ _ _ 1 _ h6 (by omega) (by omega)).mono ?_
  rintro e w6' ⟨rfl, rfl⟩
  go_wp2_with fail
  refine (h_toDescriptor nd k sz du ch _).mono ?_
  rintro e w7 ⟨rfl, hb7⟩
  have z7 := hb7.size
  have h07 := h06.below' (by omega) hb7
  have h67 := h6.below hb7
  have hB7 := hB6.trans (hb7.mono (by omega))
  clear c0 c1 c2 c3 c4 hB6 hb7
  go_wp2_with fail
  refine (i_DescriptorToBytes nd k sz du ch _).mono ?_
  rintro e w8 ⟨v8, rfl, ho8, hb8⟩
  obtain ⟨A8, d8, rfl, h8⟩ := ho8.ints hL
  have h08 := h07.below' (by omega) hb8
  have h68 := h67.below' (by omega) hb8
  have hB8 := hB7.trans (hb8.mono (by omega))
  clear hB7 hb8
  go_wp2_with fail
  refine (h_eqInt64S _ _ _ _ _ _ _ _ _ _ _ h8 h08).mono ?_
  rintro e w9 ⟨rfl, m9, rfl⟩
  go_wp2_with fail
  refine (h_heldInt64S _ _ _ _ 1 _ (h68.drewN m9) (by omega) (by omega)).mono ?_
  rintro e w9' ⟨rfl, rfl⟩
  go_wp2_with fail
  go_ret
  exact ⟨rfl, below_drewN hB8 m9⟩
end Go.Proofs.Ytffmdkkceiodaaa

/- The walk of the law on FrameFromBody, over the two contracts. -/
import Derived.Test.YtpcdachkmekjgaaFrmH
import Derived.Test.YtpcdachkmekjgaaEmpH2
import Derived.BigRegion
namespace Go.Proofs.Ytpcdachkmekjgaa
open Go.RowKit
set_option linter.unusedSimpArgs false
set_option linter.unusedVariables false
set_option maxHeartbeats 4000000 in
theorem w_FrameFromBody_ (A : Option Addr) (n c : Nat) (xs : List Int) (C K Q T M R S V : Int) (L : List Int) (hL : L.length ≤ 1100)
    (hs : ∀ (A : Option Addr) (n c B : Nat) (W : World), IntsAt W B A n c xs → B ≤ W.heap.size → Calls Try.prog 23 #[.slice A n c] W fun e W' => ∃ sl, e = .returned (.tuple #[.agg #[.int .i64 K, .int .i64 Q, .int .i64 T, .int .i64 M, .int .i64 R, .int .i64 S, .int .i64 V, sl], .int .i64 C]) ∧ IOwn W' W.heap.size sl L ∧ Below W.heap.size W W')
    (hi : ∀ (A : Option Addr) (n c B : Nat) (W : World), IntsAt W B A n c xs → B ≤ W.heap.size → Calls Try.prog 25 #[.slice A n c] W fun e W' => ∃ sl, e = .returned (.tuple #[.agg #[.int .i64 K, .int .i64 Q, .int .i64 T, .int .i64 M, .int .i64 R, .int .i64 S, .int .i64 V, sl], .int .i64 C]) ∧ IOwn W' W.heap.size sl L ∧ Below W.heap.size W W')
    (w : World) (w0 : ArgInts w A n c xs) :
    Calls Try.prog 4 #[.slice A n c] w fun e w' => e = .returned (.bool true) ∧ Below w.heap.size w w' := by
  by_cases hbig : 1048576 < n
  · have hm' : n ≤ 9223372036854775807 := Nat.le_trans (Nat.le_trans w0.1 w0.2.1) (by unfold maxLen; omega)
    clear w0 hs hi
    go_enter Try.func4, Try.ntmps4
    go_wp2
    go_ret
    exact ⟨rfl, Below.refl _ _⟩
  · have hI := w0.2.2.2.2 (by omega)
    clear w0
    have hxl : xs.length ≤ 16777216 := by rw [hI.len]; exact hI.small
    have hLL : L.length ≤ 16777216 := by omega
    have he := eqL_refl xs
    have HS := Lib.hid hs; have HI := Lib.hid hi; clear hs hi
    go_enter Try.func4, Try.ntmps4
    go_wp2_with fail
    refine (h_toInt64S A n c xs _ _ hI (Nat.le_refl _)).mono ?_
    rintro e w1 ⟨v, rfl, o, b1⟩
    obtain ⟨Ac, cc, rfl, ic⟩ := o.ints hxl
    have z1 := b1.size
    go_wp2_with fail
    refine (HS.out _ _ _ _ _ ic (Nat.le_refl _)).mono ?_
    rintro e w2 ⟨sl, rfl, o0, b2⟩
    obtain ⟨A0, e0, rfl, h0⟩ := o0.ints hLL
    have z2 := b2.size
    have B2 := (b1.trans (b2.mono (by omega))).alloc (show w.heap.size ≤ w2.heap.size by omega) (.cells #[.int .i64 K, .int .i64 Q, .int .i64 T, .int .i64 M, .int .i64 R, .int .i64 S, .int .i64 V, .slice A0 L.length e0] 32)
    have P2 := heap_alloc_new w2 (.cells #[.int .i64 K, .int .i64 Q, .int .i64 T, .int .i64 M, .int .i64 R, .int .i64 S, .int .i64 V, .slice A0 L.length e0] 32)
    have h02 := h0.alloc (Nat.le_refl _) (.cells #[.int .i64 K, .int .i64 Q, .int .i64 T, .int .i64 M, .int .i64 R, .int .i64 S, .int .i64 V, .slice A0 L.length e0] 32)
    have y2 : w2.heap.size < (w2.alloc (.cells #[.int .i64 K, .int .i64 Q, .int .i64 T, .int .i64 M, .int .i64 R, .int .i64 S, .int .i64 V, .slice A0 L.length e0] 32)).heap.size := by simp
    clear h0 o0 ic o
    go_wp2_with fail
    generalize w2.alloc _ = W2 at *
    generalize w2.heap.size = g0 at *
    refine (h_toInt64S A n c xs _ _ (hI.below B2) (by omega)).mono ?_
    rintro e w3 ⟨vx, rfl, ox, b3⟩
    obtain ⟨Ax, cx, rfl, ix⟩ := ox.ints hxl
    have oxl := ox.lt
    have z3 := b3.size
    have P3 := (b3.block g0 (by omega)).trans P2
    have h03 := h02.below' (by omega) b3
    have B3 := B2.trans (b3.mono (by omega))
    clear P2 h02 B2
    go_wp2_with fail
    refine (HI.out _ _ _ _ _ ix (Nat.le_refl _)).mono ?_
    rintro e w4 ⟨sl1, rfl, o1, b4⟩
    obtain ⟨A1, e1, rfl, h1⟩ := o1.ints hLL
    have o1l := o1.lt
    have z4 := b4.size
    have P4 := ((Below.heap_alloc w4 (.cells #[.int .i64 K, .int .i64 Q, .int .i64 T, .int .i64 M, .int .i64 R, .int .i64 S, .int .i64 V, .slice A1 L.length e1] 32) g0 (by omega)).trans (b4.block g0 (by omega))).trans P3
    have h04 := (h03.below' (by omega) b4).alloc (by omega) (.cells #[.int .i64 K, .int .i64 Q, .int .i64 T, .int .i64 M, .int .i64 R, .int .i64 S, .int .i64 V, .slice A1 L.length e1] 32)
    have ox4 := (ox.below_ b4).alloc (.cells #[.int .i64 K, .int .i64 Q, .int .i64 T, .int .i64 M, .int .i64 R, .int .i64 S, .int .i64 V, .slice A1 L.length e1] 32)
    have ix4 := (ix.below b4).alloc (by omega) (.cells #[.int .i64 K, .int .i64 Q, .int .i64 T, .int .i64 M, .int .i64 R, .int .i64 S, .int .i64 V, .slice A1 L.length e1] 32)
    have o14 := o1.alloc (.cells #[.int .i64 K, .int .i64 Q, .int .i64 T, .int .i64 M, .int .i64 R, .int .i64 S, .int .i64 V, .slice A1 L.length e1] 32)
    have h14 := h1.alloc (Nat.le_refl _) (.cells #[.int .i64 K, .int .i64 Q, .int .i64 T, .int .i64 M, .int .i64 R, .int .i64 S, .int .i64 V, .slice A1 L.length e1] 32)
    have B4 := (B3.trans (b4.mono (by omega))).alloc (by omega) (.cells #[.int .i64 K, .int .i64 Q, .int .i64 T, .int .i64 M, .int .i64 R, .int .i64 S, .int .i64 V, .slice A1 L.length e1] 32)
    have Q4 := heap_alloc_new w4 (.cells #[.int .i64 K, .int .i64 Q, .int .i64 T, .int .i64 M, .int .i64 R, .int .i64 S, .int .i64 V, .slice A1 L.length e1] 32)
    have y4 : w4.heap.size < (w4.alloc (.cells #[.int .i64 K, .int .i64 Q, .int .i64 T, .int .i64 M, .int .i64 R, .int .i64 S, .int .i64 V, .slice A1 L.length e1] 32)).heap.size := by simp
    clear P3 h03 ox ix o1 h1 B3
    obtain ⟨c0, c1, c2, c3, c4, c5, c6, c7⟩ := fr_cells P4
    obtain ⟨d0, d1, d2, d3, d4, d5, d6, d7⟩ := fr_cells Q4
    have l4 : g0 < w4.heap.size := by omega
    have ne4 : g0 ≠ w4.heap.size := by omega
    go_wp2_with fail
    generalize w4.alloc _ = W4 at *
    generalize w4.heap.size = g1 at *
    clear l4 ne4
    refine (h_eqFrame K Q T M R S V _ _ _ _ _ _ L _ _ _ h14 h04 (by omega) (by omega)).mono ?_
    rintro e w5 ⟨rfl, b5⟩
    have z5 := b5.size
    have P5 := (b5.block g0 (by omega)).trans P4
    have Q5 := (b5.block g1 (by omega)).trans Q4
    have h05 := h04.below' (by omega) b5
    have h15 := h14.below' (by omega) b5
    have ox5 := ox4.below_ b5
    have ix5 := ix4.below' (by omega) b5
    have o15 := o14.below_ b5
    have B5 := B4.trans (b5.mono (by omega))
    clear P4 Q4 h04 h14 ox4 ix4 o14 B4 c0 c1 c2 c3 c4 c5 c6 c7 d0 d1 d2 d3 d4 d5 d6 d7
    go_wp2_with fail
    refine (h_toInt64S A n c xs _ _ (hI.below B5) (by omega)).mono ?_
    rintro e w6 ⟨vy, rfl, oy, b6⟩
    obtain ⟨Ay, cy, rfl, iy⟩ := oy.ints hxl
    have z6 := b6.size
    have ix6 := ix5.below' (by omega) b6
    go_wp2_with fail
    refine (h_eqInt64S _ _ _ _ _ _ _ _ _ _ _ ix6 iy).mono ?_
    rintro e w7 ⟨rfl, m7, rfl⟩
    have P7 : (w6.drewN m7).heap[g0]? = _ := (b6.block g0 (by omega)).trans P5
    have Q7 : (w6.drewN m7).heap[g1]? = _ := (b6.block g1 (by omega)).trans Q5
    have h07 := (h05.below' (by omega) b6).drewN m7
    have h17 := (h15.below' (by omega) b6).drewN m7
    have ox7 := (ox5.below_ b6).drewN m7
    have o17 := (o15.below_ b6).drewN m7
    have B7 := below_drewN (B5.trans (b6.mono (by omega))) m7
    have z7 : w5.heap.size ≤ (w6.drewN m7).heap.size := z6
    clear P5 Q5 h05 h15 ox5 ix5 o15 B5 iy oy ix6 b6 z6
    generalize w6.drewN m7 = W7 at *
    go_wp2_with fail
    refine (h_markInt64S _ _ _ 1 _ ox7 (by omega) (by omega) hxl).mono ?_
    rintro e w8 ⟨rfl, -, hg8⟩
    have P8 := (hg8.block g0 (by omega) (fun e => by have := oxl _ e.symm; omega)).trans P7
    have Q8 := (hg8.block g1 (by omega) (fun e => by have := oxl _ e.symm; omega)).trans Q7
    have h08 := h07.grown hg8 (by omega) (fun b hb => by have := oxl b hb; omega)
    have o18 := o17.kept hg8 (by
      rcases hq : (Value.slice A1 L.length e1).ownBlock with _ | b
      · exact .inl rfl
      · refine .inr fun e => ?_
        have := oxl b e.symm
        have := o1l b hq
        omega)
    obtain ⟨A1', e1', e18, h18⟩ := o18.ints hLL
    injection e18 with e181 e182 e183
    subst e181 e183
    have B8 := B7.trans (grown_below hg8 (by omega) (fun b hb => by have := oxl b hb; omega))
    have z8 := hg8.size
    have hp : decide ((1 : Int) + xs.length < 0) = false := by simp; omega
    clear P7 Q7 h07 h17 ox7 o17 B7 hg8 e182
    obtain ⟨c0, c1, c2, c3, c4, c5, c6, c7⟩ := fr_cells P8
    obtain ⟨d0, d1, d2, d3, d4, d5, d6, d7⟩ := fr_cells Q8
    go_wp2_with fail
    refine (h_eqFrame K Q T M R S V _ _ _ _ _ _ L _ _ _ h18 h08 (by omega) (by omega)).mono ?_
    rintro e w9 ⟨rfl, b9⟩
    have z9 := b9.size
    have P9 := (b9.block g0 (by omega)).trans P8
    have Q9 := (b9.block g1 (by omega)).trans Q8
    have h09 := h08.below' (by omega) b9
    have o19 := o18.below_ b9
    have B9 := B8.trans (b9.mono (by omega))
    clear P8 Q8 h08 h18 o18 B8 c0 c1 c2 c3 c4 c5 c6 c7 d0 d1 d2 d3 d4 d5 d6 d7
    obtain ⟨d0, d1, d2, d3, d4, d5, d6, d7⟩ := fr_cells Q9
    go_wp2_with fail
    refine (h_markFrame K Q T M R S V _ _ _ L _ 1 _ o19 (by omega) (by omega) hLL).mono ?_
    rintro e wa ⟨rfl, oa, hga⟩
    have Pa := (hga.block g0 (by omega) (fun e => by have := o1l _ e.symm; omega)).trans P9
    have Qa := (hga.block g1 (by omega) (fun e => by have := o1l _ e.symm; omega)).trans Q9
    have h0a := h09.grown hga (by omega) (fun b hb => by have := o1l b hb; omega)
    have Ba := B9.trans (grown_below hga (by omega) (fun b hb => by have := o1l b hb; omega))
    have za := hga.size
    obtain ⟨Am, em, ema, hma⟩ := oa.ints (by rw [marksL_len]; exact hLL)
    rw [marksL_len] at ema hma
    injection ema with ema1 ema2 ema3
    subst ema1 ema3
    clear P9 Q9 h09 o19 B9 hga oa ema2 d0 d1 d2 d3 d4 d5 d6 d7
    obtain ⟨d0, d1, d2, d3, d4, d5, d6, d7⟩ := fr_cells Qa
    go_wp2_with fail
    refine (h_heldFrame K Q T M R S V _ _ _ _ 1 _ hma (by omega) (by omega) (by omega)).mono ?_
    rintro e wb ⟨rfl, bb⟩
    have zb := bb.size
    have Pb := (bb.block g0 (by omega)).trans Pa
    have Qb := (bb.block g1 (by omega)).trans Qa
    have h0b := h0a.below' (by omega) bb
    have hmb := hma.below' (by omega) bb
    have Bb := Ba.trans (bb.mono (by omega))
    clear Pa Qa h0a hma Ba d0 d1 d2 d3 d4 d5 d6 d7
    go_wp2_with fail
    refine (h_toInt64S A n c xs _ _ (hI.below Bb) (by omega)).mono ?_
    rintro e wc ⟨vz, rfl, oz, bc⟩
    obtain ⟨Az, cz, rfl, iz⟩ := oz.ints hxl
    have zc := bc.size
    have Pc := (bc.block g0 (by omega)).trans Pb
    have Qc := (bc.block g1 (by omega)).trans Qb
    have h0c := h0b.below' (by omega) bc
    have hmc := hmb.below' (by omega) bc
    have Bc := Bb.trans (bc.mono (by omega))
    clear Pb Qb h0b hmb Bb oz
    go_wp2_with fail
    refine (HI.out _ _ _ _ _ iz (Nat.le_refl _)).mono ?_
    rintro e wd ⟨sl2, rfl, o2, bd⟩
    obtain ⟨A2, e2, rfl, h2⟩ := o2.ints hLL
    have zd := bd.size
    have Pd := ((Below.heap_alloc wd (.cells #[.int .i64 K, .int .i64 Q, .int .i64 T, .int .i64 M, .int .i64 R, .int .i64 S, .int .i64 V, .slice A2 L.length e2] 32) g0 (by omega)).trans (bd.block g0 (by omega))).trans Pc
    have Qd := ((Below.heap_alloc wd (.cells #[.int .i64 K, .int .i64 Q, .int .i64 T, .int .i64 M, .int .i64 R, .int .i64 S, .int .i64 V, .slice A2 L.length e2] 32) g1 (by omega)).trans (bd.block g1 (by omega))).trans Qc
    have Rd := heap_alloc_new wd (.cells #[.int .i64 K, .int .i64 Q, .int .i64 T, .int .i64 M, .int .i64 R, .int .i64 S, .int .i64 V, .slice A2 L.length e2] 32)
    have h0d := (h0c.below' (by omega) bd).alloc (by omega) (.cells #[.int .i64 K, .int .i64 Q, .int .i64 T, .int .i64 M, .int .i64 R, .int .i64 S, .int .i64 V, .slice A2 L.length e2] 32)
    have hmd := (hmc.below' (by omega) bd).alloc (by omega) (.cells #[.int .i64 K, .int .i64 Q, .int .i64 T, .int .i64 M, .int .i64 R, .int .i64 S, .int .i64 V, .slice A2 L.length e2] 32)
    have h2d := h2.alloc (Nat.le_refl _) (.cells #[.int .i64 K, .int .i64 Q, .int .i64 T, .int .i64 M, .int .i64 R, .int .i64 S, .int .i64 V, .slice A2 L.length e2] 32)
    have Bd := (Bc.trans (bd.mono (by omega))).alloc (by omega) (.cells #[.int .i64 K, .int .i64 Q, .int .i64 T, .int .i64 M, .int .i64 R, .int .i64 S, .int .i64 V, .slice A2 L.length e2] 32)
    have yd : wd.heap.size < (wd.alloc (.cells #[.int .i64 K, .int .i64 Q, .int .i64 T, .int .i64 M, .int .i64 R, .int .i64 S, .int .i64 V, .slice A2 L.length e2] 32)).heap.size := by simp
    have ned : g0 ≠ wd.heap.size := by omega
    have led : g0 < wd.heap.size := by omega
    clear Pc Qc h0c hmc Bc h2 o2 iz
    obtain ⟨c0, c1, c2, c3, c4, c5, c6, c7⟩ := fr_cells Pd
    obtain ⟨d0, d1, d2, d3, d4, d5, d6, d7⟩ := fr_cells Rd
    go_wp2_with fail
    generalize wd.alloc _ = Wd at *
    generalize wd.heap.size = g2 at *
    clear ned led
    refine (h_eqFrame K Q T M R S V _ _ _ _ _ _ L _ _ _ h2d h0d (by omega) (by omega)).mono ?_
    rintro e we ⟨rfl, be⟩
    have ze := be.size
    have Qe := (be.block g1 (by omega)).trans Qd
    have hme := hmd.below' (by omega) be
    have Be := Bd.trans (be.mono (by omega))
    clear Pd Qd Rd h0d hmd h2d Bd c0 c1 c2 c3 c4 c5 c6 c7 d0 d1 d2 d3 d4 d5 d6 d7
    obtain ⟨d0, d1, d2, d3, d4, d5, d6, d7⟩ := fr_cells Qe
    go_wp2_with fail
    refine (h_heldFrame K Q T M R S V _ _ _ _ 1 _ hme (by omega) (by omega) (by omega)).mono ?_
    rintro e wf ⟨rfl, bf⟩
    have Bf := Be.trans (bf.mono (by omega))
    go_wp2
    go_ret
    exact ⟨rfl, Bf⟩
end Go.Proofs.Ytpcdachkmekjgaa

/- The walk of the law on DataOfImage. -/
import Derived.Test.YtjheanonklgbcaaDat2
namespace Go.Proofs.Ytjheanonklgbcaa
open Go.RowKit
set_option linter.unusedSimpArgs false
set_option linter.unusedVariables false
set_option maxHeartbeats 2000000 in
theorem w_DataOfImage_ (a0 : Option Addr) (len0 cap0 : Nat) (z0 : List Int)  (C : Int) (L : List Int) (hLL : L.length ≤ 16777216) (w : World) (w0 : ArgInts w a0 len0 cap0 z0)  (hS0 : ∀ (A : Option Addr) (n c B : Nat) (W : World), IntsAt W B A n c z0 → B ≤ W.heap.size → Calls Try.prog 24 #[.slice A n c] W fun e W' => ∃ u, e = .returned (.tuple #[u, .int .i64 C]) ∧ IOwn W' W.heap.size u L ∧ Below W.heap.size W W') (hI0 : ∀ (A : Option Addr) (n c B : Nat) (W : World), IntsAt W B A n c z0 → B ≤ W.heap.size → Calls Try.prog 25 #[.slice A n c] W fun e W' => ∃ u, e = .returned (.tuple #[u, .int .i64 C]) ∧ IOwn W' W.heap.size u L ∧ Below W.heap.size W W') :
    Calls Try.prog 6 #[.slice a0 len0 cap0] w fun e w' => e = .returned (.bool true) ∧ Below w.heap.size w w' := by
  by_cases hbig : 1048576 < len0
  · clear w0 hS0 hI0
    go_enter Try.func6, Try.ntmps6
    go_wp2
    go_ret
    exact ⟨rfl, Below.refl _ _⟩
  · have hI := w0.2.2.2.2 (by omega)
    clear w0
    have hL := hLL
    have hzl : z0.length ≤ 16777216 := by rw [hI.len]; exact hI.small
    have he := eqL_refl (L)
    have hez := eqL_refl z0
    have HS := Lib.hid hS0; have HI := Lib.hid hI0; clear hS0 hI0
    have hcd : (C != C) = false := by simp
    go_enter Try.func6, Try.ntmps6
    go_wp2_with fail
    refine (h_toInt64S _ _ _ _ _ _ hI (Nat.le_refl _)).mono ?_
    rintro e w1 ⟨vs, rfl, hos, hbs⟩
    obtain ⟨As, cs, rfl, hs⟩ := hos.ints hzl
    have hI1 := hI.below hbs
    have z1 := hbs.size
    go_wp2_with fail
    refine (HS.out _ _ _ _ _ hs (Nat.le_refl _)).mono ?_
    rintro e w2 ⟨v0, rfl, ho0, hb0⟩
    obtain ⟨A0, c0, rfl, h0⟩ := ho0.ints hL
    have hI2 := hI1.below' z1 hb0
    have z2 := hb0.size
    have hB2 := hbs.trans (hb0.mono z1)
    clear hos hs ho0 hb0 hbs
    go_wp2_with fail
    refine (h_toInt64S _ _ _ _ _ _ hI2 (by omega)).mono ?_
    rintro e w3 ⟨vx, rfl, hox, hbx⟩
    obtain ⟨Ax, cx, rfl, hx⟩ := hox.ints hzl
    have hI3 := hI2.below' (by omega) hbx
    have h03 := h0.below hbx
    have z3 := hbx.size
    have hB3 := hB2.trans (hbx.mono (by omega))
    clear hbx hB2
    go_wp2_with fail
    refine (HI.out _ _ _ _ _ hx (Nat.le_refl _)).mono ?_
    rintro e w4 ⟨v1, rfl, ho1, hb1⟩
    obtain ⟨A1, c1, rfl, h1⟩ := ho1.ints hL
    have hI4 := hI3.below' (by omega) hb1
    have h04 := h03.below' z3 hb1
    have hx4 := hx.below hb1
    have hox4 := hox.below_ hb1
    have z4 := hb1.size
    have hB4 := hB3.trans (hb1.mono (by omega))
    clear hb1 hB3 hx
    go_wp2_with fail
    refine (h_eqInt64S _ _ _ _ _ _ _ _ _ _ _ h1 h04).mono ?_
    rintro e w5 ⟨rfl, m5, rfl⟩
    go_wp2_with fail
    refine (h_toInt64S _ _ _ _ _ (w4.drewN m5) (hI4.drewN m5) (by simp; omega)).mono ?_
    rintro e w6 ⟨vt, rfl, hot, hbt⟩
    obtain ⟨At, ct, rfl, ht⟩ := hot.ints hzl
    have hbt' : Below w4.heap.size (w4.drewN m5) w6 := hbt
    have hI6 := (hI4.drewN m5).below' (by omega) hbt'
    have h06 := (h04.drewN m5).below' (by omega) hbt'
    have hx6 := (hx4.drewN m5).below' (by omega) hbt'
    have hox6 := (hox4.drewN m5).below_ hbt'
    have ho16 := (ho1.drewN m5).below_ hbt'
    have z6 : w4.heap.size ≤ w6.heap.size := hbt'.size
    have hB6 := (below_drewN hB4 m5).trans (hbt'.mono (by omega))
    clear hot hbt hbt' hB4 hox4 hx4 h04
    go_wp2_with fail
    refine (h_eqInt64S _ _ _ _ _ _ _ _ _ _ _ hx6 ht).mono ?_
    rintro e w7 ⟨rfl, m7, rfl⟩
    clear ht hx6
    go_wp2_with fail
    refine (h_markInt64S _ _ _ 1 _ (hox6.drewN m7) (by omega) (by omega) hzl).mono ?_
    rintro e w8 ⟨rfl, ho8, hg8⟩
    have hg8' : w6.grownBy w8 (Value.slice Ax z0.length cx).ownBlock := ⟨hg8.os, hg8.tape, hg8.output, hg8.size, hg8.block⟩
    have hxl := hox.lt
    have h1l := ho1.lt
    have hI8 := hI6.grown hg8' (by omega) (fun g hg => by have := hxl g hg; omega)
    have h08 := h06.grown hg8' (by omega) (fun g hg => by have := hxl g hg; omega)
    have ho18 := ho16.kept hg8' (by
      rcases hq : (Value.slice A1 (L).length c1).ownBlock with _ | g1
      · exact .inl rfl
      · refine .inr (fun e => ?_)
        have q1 := h1l g1 hq
        have q2 := hxl g1 e.symm
        omega)
    have z8 : w6.heap.size ≤ w8.heap.size := hg8'.size
    have hB8 := hB6.trans (grown_below hg8' (by omega) (fun g hg => by have := hxl g hg; omega))
    clear ho8 hg8 hg8' hox6 ho16 hB6 hI6 h06 h1 hox ho1 hI4 hI3 hI2 hI1 hI h0 h03
    obtain ⟨A1', c1', e1, h18⟩ := ho18.ints hL
    injection e1 with e11 e12 e13
    subst e11 e13
    clear e12
    go_wp2_with fail
    refine (h_eqInt64S _ _ _ _ _ _ _ _ _ _ _ h18 h08).mono ?_
    rintro e w9 ⟨rfl, m9, rfl⟩
    go_wp2_with fail
    refine (h_markInt64S _ _ _ 1 _ (ho18.drewN m9) (by omega) (by omega) hL).mono ?_
    rintro e w10 ⟨rfl, ho10, hg10⟩
    have hg10' : w8.grownBy w10 (Value.slice A1 (L).length c1).ownBlock := ⟨hg10.os, hg10.tape, hg10.output, hg10.size, hg10.block⟩
    have hI10 := hI8.grown hg10' (by omega) (fun g hg => by have := h1l g hg; omega)
    have h010 := h08.grown hg10' (by omega) (fun g hg => by have := h1l g hg; omega)
    have z10 : w8.heap.size ≤ w10.heap.size := hg10'.size
    have hB10 := hB8.trans (grown_below hg10' (by omega) (fun g hg => by have := h1l g hg; omega))
    obtain ⟨A10, c10, e10, h10⟩ := ho10.ints (by rw [marksL_len]; exact hL)
    rw [marksL_len] at e10 h10
    injection e10 with e101 e102 e103
    subst e101 e103
    clear e102 hg10 hg10' ho18 h18 hI8 h08 hB8 ho10
    go_wp2_with fail
    refine (h_heldInt64S _ _ _ _ 1 _ h10 (by omega) (by omega)).mono ?_
    rintro e w10' ⟨rfl, rfl⟩
    go_wp2_with fail
    refine (h_toInt64S _ _ _ _ _ _ hI10 (by omega)).mono ?_
    rintro e w11 ⟨vy, rfl, hoy, hby⟩
    obtain ⟨Ay, cy, rfl, hy⟩ := hoy.ints hzl
    have h011 := h010.below' (by omega) hby
    have h1011 := h10.below hby
    have z11 := hby.size
    have hB11 := hB10.trans (hby.mono (by omega))
    clear hoy hby hB10 h10 h010
    go_wp2_with fail
    refine (HI.out _ _ _ _ _ hy (Nat.le_refl _)).mono ?_
    rintro e w12 ⟨v2, rfl, ho2, hb2⟩
    obtain ⟨A2, c2, rfl, h2⟩ := ho2.ints hL
    have h012 := h011.below' (by omega) hb2
    have h1012 := h1011.below' (by omega) hb2
    have hB12 := hB11.trans (hb2.mono (by omega))
    clear ho2 hb2 hB11 hy
    go_wp2_with fail
    refine (h_eqInt64S _ _ _ _ _ _ _ _ _ _ _ h2 h012).mono ?_
    rintro e w13 ⟨rfl, m13, rfl⟩
    go_wp2_with fail
    refine (h_heldInt64S _ _ _ _ 1 _ (h1012.drewN m13) (by omega) (by omega)).mono ?_
    rintro e w14 ⟨rfl, rfl⟩
    go_wp2_with fail
    go_ret
    exact ⟨rfl, below_drewN hB12 m13⟩
theorem w_DataOfImage (a0 : Option Addr) (len0 cap0 : Nat) (z0 : List Int)  (w : World) (w0 : ArgInts w a0 len0 cap0 z0)  :
    Calls Try.prog 6 #[.slice a0 len0 cap0] w fun e w' => e = .returned (.bool true) ∧ Below w.heap.size w w' :=
  w_DataOfImage_ a0 len0 cap0 z0 (doC z0) (doL z0) (doL_len z0) w w0 (fun A n c B W h hB => s_DataOfImage A n c z0 B W h hB) (fun A n c B W h hB => i_DataOfImage A n c z0 B W h hB)
end Go.Proofs.Ytjheanonklgbcaa

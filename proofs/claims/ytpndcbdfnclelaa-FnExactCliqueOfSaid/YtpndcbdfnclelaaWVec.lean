/- The walks of the laws on membership vectors. -/
import Derived.Test.YtpndcbdfnclelaaVec
namespace Go.Proofs.Ytpndcbdfnclelaa
open Go.RowKit
set_option linter.unusedSimpArgs false
set_option linter.unusedVariables false
set_option maxHeartbeats 1000000 in
theorem w_MembersOf (a0 : Int) (w : World) (w0 : (Lit.int .i64 a0).wf = true) :
    Calls Try.prog 9 #[.int .i64 a0] w fun e w' => e = .returned (.bool true) ∧ Below w.heap.size w w' := by
  have hL := (Nat.le_trans (membersL_len a0) (by omega) : (membersL a0).length ≤ 16777216)
  have he := eqL_refl (membersL a0)
  go_enter Try.func9, Try.ntmps9
  go_wp2_with fail
  refine (s_MembersOf a0 _).mono ?_
  rintro e w1 ⟨v0, rfl, ho0, hb0⟩
  obtain ⟨A0, c0, rfl, h0⟩ := ho0.ints hL
  go_wp2_with fail
  refine (i_MembersOf a0 _).mono ?_
  rintro e w2 ⟨v1, rfl, ho1, hb1⟩
  have h0' := h0.below hb1
  obtain ⟨A1, c1, rfl, h1⟩ := ho1.ints hL
  go_wp2_with fail
  refine (h_eqInt64S _ _ _ _ _ _ _ _ _ _ _ h1 h0').mono ?_
  rintro e w3 ⟨rfl, m3, rfl⟩
  go_wp2_with fail
  refine (h_markInt64S _ _ _ 1 _ (ho1.drewN m3) (by omega) (by omega) hL).mono ?_
  rintro e w4 ⟨rfl, ho4, hg4⟩
  have hs0 := hb0.size
  have hs1 := hb1.size
  have h0'' := (h0'.drewN m3).grown hg4 hs1 (fun g hg => (ho1.lt g hg).1)
  have hb4 : Below w.heap.size w w4 := (below_drewN (hb0.trans (hb1.mono hs0)) m3).trans (grown_below hg4 (Nat.le_trans hs0 hs1) (fun g hg => by have := (ho1.lt g hg).1; omega))
  have hsz4 := hg4.size
  obtain ⟨A4, c4, e4, h4⟩ := ho4.ints (by rw [marksL_len]; exact hL)
  rw [marksL_len] at e4 h4
  injection e4 with e41 e42 e43
  subst e41 e43
  clear e42
  go_wp2_with fail
  refine (h_heldInt64S _ _ _ _ 1 _ h4 (by omega) (by omega)).mono ?_
  rintro e w5 ⟨rfl, rfl⟩
  go_wp2_with fail
  refine (i_MembersOf a0 _).mono ?_
  rintro e w6 ⟨v6, rfl, ho6, hb6⟩
  have h0f := h0''.below' (by simp at hsz4; omega) hb6
  obtain ⟨A6, c6, rfl, h6⟩ := ho6.ints hL
  have h4f := h4.below hb6
  go_wp2_with fail
  refine (h_eqInt64S _ _ _ _ _ _ _ _ _ _ _ h6 h0f).mono ?_
  rintro e w7 ⟨rfl, m7, rfl⟩
  go_wp2_with fail
  refine (h_heldInt64S _ _ _ _ 1 _ (h4f.drewN m7) (by omega) (by omega)).mono ?_
  rintro e w8 ⟨rfl, rfl⟩
  go_wp2_with fail
  go_ret
  exact ⟨rfl, below_drewN (hb4.trans (hb6.mono (by simp at hsz4; omega))) m7⟩
set_option maxHeartbeats 2000000 in
theorem w_CliqueOf (a0 : Option Addr) (len0 cap0 : Nat) (z0 : List Int) (a1 : Int) (w : World) (w0 : ArgInts w a0 len0 cap0 z0) (w1 : (Lit.int .i64 a1).wf = true) :
    Calls Try.prog 11 #[.slice a0 len0 cap0, .int .i64 a1] w fun e w' => e = .returned (.bool true) ∧ Below w.heap.size w w' := by
  by_cases hbig : 1048576 < len0
  · clear w0
    go_enter Try.func11, Try.ntmps11
    go_wp2
    go_ret
    exact ⟨rfl, Below.refl _ _⟩
  · have hI := w0.2.2.2.2 (by omega)
    clear w0
    have hL := (Nat.le_trans (cliqR_len z0 a1) (by omega) : (cliqR z0 a1).length ≤ 16777216)
    have hzl : z0.length ≤ 16777216 := by rw [hI.len]; exact hI.small
    have he := eqL_refl (cliqR z0 a1)
    have hez := eqL_refl z0
    go_enter Try.func11, Try.ntmps11
    go_wp2_with fail
    refine (h_toInt64S _ _ _ _ _ _ hI (Nat.le_refl _)).mono ?_
    rintro e w1 ⟨vs, rfl, hos, hbs⟩
    obtain ⟨As, cs, rfl, hs⟩ := hos.ints hzl
    have hI1 := hI.below hbs
    have z1 := hbs.size
    go_wp2_with fail
    refine (s_CliqueOf _ _ _ _ a1 _ _ hs (Nat.le_refl _)).mono ?_
    rintro e w2 ⟨v0, rfl, ho0, hb0⟩
    obtain ⟨A0, c0, rfl, h0⟩ := ho0.ints hL
    have hI2 := hI1.below' z1 hb0
    have z2 := hb0.size
    have hB2 := hbs.trans (hb0.mono z1)
    clear hos hs ho0 hb0 hbs
    go_wp2_with fail
    refine (h_toInt64S _ _ _ _ _ _ hI2 (by omega)).mono ?_
    rintro e w3 ⟨vx, rfl, hox, hbx⟩
    obtain ⟨Ax, cx, rfl, hx⟩ := hox.ints hzl
    have hI3 := hI2.below' (by omega) hbx
    have h03 := h0.below hbx
    have z3 := hbx.size
    have hB3 := hB2.trans (hbx.mono (by omega))
    clear hbx hB2
    go_wp2_with fail
    refine (i_CliqueOf _ _ _ _ a1 _ _ hx (Nat.le_refl _)).mono ?_
    rintro e w4 ⟨v1, rfl, ho1, hb1⟩
    obtain ⟨A1, c1, rfl, h1⟩ := ho1.ints hL
    have hI4 := hI3.below' (by omega) hb1
    have h04 := h03.below' z3 hb1
    have hx4 := hx.below hb1
    have hox4 := hox.below_ hb1
    have z4 := hb1.size
    have hB4 := hB3.trans (hb1.mono (by omega))
    clear hb1 hB3 hx
    go_wp2_with fail
    refine (h_eqInt64S _ _ _ _ _ _ _ _ _ _ _ h1 h04).mono ?_
    rintro e w5 ⟨rfl, m5, rfl⟩
    go_wp2_with fail
    refine (h_toInt64S _ _ _ _ _ (w4.drewN m5) (hI4.drewN m5) (by simp; omega)).mono ?_
    rintro e w6 ⟨vt, rfl, hot, hbt⟩
    obtain ⟨At, ct, rfl, ht⟩ := hot.ints hzl
    have hbt' : Below w4.heap.size (w4.drewN m5) w6 := hbt
    have hI6 := (hI4.drewN m5).below' (by omega) hbt'
    have h06 := (h04.drewN m5).below' (by omega) hbt'
    have hx6 := (hx4.drewN m5).below' (by omega) hbt'
    have hox6 := (hox4.drewN m5).below_ hbt'
    have ho16 := (ho1.drewN m5).below_ hbt'
    have z6 : w4.heap.size ≤ w6.heap.size := hbt'.size
    have hB6 := (below_drewN hB4 m5).trans (hbt'.mono (by omega))
    clear hot hbt hbt' hB4 hox4 hx4 h04
    go_wp2_with fail
    refine (h_eqInt64S _ _ _ _ _ _ _ _ _ _ _ hx6 ht).mono ?_
    rintro e w7 ⟨rfl, m7, rfl⟩
    clear ht hx6
    go_wp2_with fail
    refine (h_markInt64S _ _ _ 1 _ (hox6.drewN m7) (by omega) (by omega) hzl).mono ?_
    rintro e w8 ⟨rfl, ho8, hg8⟩
    have hg8' : w6.grownBy w8 (Value.slice Ax z0.length cx).ownBlock := ⟨hg8.os, hg8.tape, hg8.output, hg8.size, hg8.block⟩
    have hxl := hox.lt
    have h1l := ho1.lt
    have hI8 := hI6.grown hg8' (by omega) (fun g hg => by have := hxl g hg; omega)
    have h08 := h06.grown hg8' (by omega) (fun g hg => by have := hxl g hg; omega)
    have ho18 := ho16.kept hg8' (by
      rcases hq : (Value.slice A1 (cliqR z0 a1).length c1).ownBlock with _ | g1
      · exact .inl rfl
      · refine .inr (fun e => ?_)
        have q1 := h1l g1 hq
        have q2 := hxl g1 e.symm
        omega)
    have z8 : w6.heap.size ≤ w8.heap.size := hg8'.size
    have hB8 := hB6.trans (grown_below hg8' (by omega) (fun g hg => by have := hxl g hg; omega))
    clear ho8 hg8 hg8' hox6 ho16 hB6 hI6 h06 h1 hox ho1 hI4 hI3 hI2 hI1 hI h0 h03
    obtain ⟨A1', c1', e1, h18⟩ := ho18.ints hL
    injection e1 with e11 e12 e13
    subst e11 e13
    clear e12
    go_wp2_with fail
    refine (h_eqInt64S _ _ _ _ _ _ _ _ _ _ _ h18 h08).mono ?_
    rintro e w9 ⟨rfl, m9, rfl⟩
    go_wp2_with fail
    refine (h_markInt64S _ _ _ 1 _ (ho18.drewN m9) (by omega) (by omega) hL).mono ?_
    rintro e w10 ⟨rfl, ho10, hg10⟩
    have hg10' : w8.grownBy w10 (Value.slice A1 (cliqR z0 a1).length c1).ownBlock := ⟨hg10.os, hg10.tape, hg10.output, hg10.size, hg10.block⟩
    have hI10 := hI8.grown hg10' (by omega) (fun g hg => by have := h1l g hg; omega)
    have h010 := h08.grown hg10' (by omega) (fun g hg => by have := h1l g hg; omega)
    have z10 : w8.heap.size ≤ w10.heap.size := hg10'.size
    have hB10 := hB8.trans (grown_below hg10' (by omega) (fun g hg => by have := h1l g hg; omega))
    obtain ⟨A10, c10, e10, h10⟩ := ho10.ints (by rw [marksL_len]; exact hL)
    rw [marksL_len] at e10 h10
    injection e10 with e101 e102 e103
    subst e101 e103
    clear e102 hg10 hg10' ho18 h18 hI8 h08 hB8 ho10
    go_wp2_with fail
    refine (h_heldInt64S _ _ _ _ 1 _ h10 (by omega) (by omega)).mono ?_
    rintro e w10' ⟨rfl, rfl⟩
    go_wp2_with fail
    refine (h_toInt64S _ _ _ _ _ _ hI10 (by omega)).mono ?_
    rintro e w11 ⟨vy, rfl, hoy, hby⟩
    obtain ⟨Ay, cy, rfl, hy⟩ := hoy.ints hzl
    have h011 := h010.below' (by omega) hby
    have h1011 := h10.below hby
    have z11 := hby.size
    have hB11 := hB10.trans (hby.mono (by omega))
    clear hoy hby hB10 h10 h010
    go_wp2_with fail
    refine (i_CliqueOf _ _ _ _ a1 _ _ hy (Nat.le_refl _)).mono ?_
    rintro e w12 ⟨v2, rfl, ho2, hb2⟩
    obtain ⟨A2, c2, rfl, h2⟩ := ho2.ints hL
    have h012 := h011.below' (by omega) hb2
    have h1012 := h1011.below' (by omega) hb2
    have hB12 := hB11.trans (hb2.mono (by omega))
    clear ho2 hb2 hB11 hy
    go_wp2_with fail
    refine (h_eqInt64S _ _ _ _ _ _ _ _ _ _ _ h2 h012).mono ?_
    rintro e w13 ⟨rfl, m13, rfl⟩
    go_wp2_with fail
    refine (h_heldInt64S _ _ _ _ 1 _ (h1012.drewN m13) (by omega) (by omega)).mono ?_
    rintro e w14 ⟨rfl, rfl⟩
    go_wp2_with fail
    go_ret
    exact ⟨rfl, below_drewN hB12 m13⟩
theorem b_i_AgreedMembers (A : Option Addr) (n c : Nat) (xs : List Int) (B : Nat) (w : World) (h : IntsAt w B A n c xs) :
    Calls Try.prog 39 #[.slice A n c] w fun e w' => e = .returned (.tuple #[.int .i64 (agreedV xs), .int .i64 (agreedC xs)]) ∧ Below w.heap.size w w' :=
  (i_AgreedMembers A n c xs B w h).mono fun _ _ ⟨he, hw⟩ => ⟨he, by subst hw; exact Below.refl _ _⟩
theorem b_s_AgreedMembers (A : Option Addr) (n c : Nat) (xs : List Int) (B : Nat) (w : World) (h : IntsAt w B A n c xs) :
    Calls Try.prog 38 #[.slice A n c] w fun e w' => e = .returned (.tuple #[.int .i64 (agreedV xs), .int .i64 (agreedC xs)]) ∧ Below w.heap.size w w' :=
  (s_AgreedMembers A n c xs B w h).mono fun _ _ ⟨he, hw⟩ => ⟨he, by subst hw; exact Below.refl _ _⟩
set_option maxHeartbeats 1000000 in
theorem w_AgreedMembers (a0 : Option Addr) (len0 cap0 : Nat) (z0 : List Int)  (w : World) (w0 : ArgInts w a0 len0 cap0 z0)  :
    Calls Try.prog 12 #[.slice a0 len0 cap0] w fun e w' => e = .returned (.bool true) ∧ Below w.heap.size w w' := by
  by_cases hbig : 1048576 < len0
  · clear w0
    go_enter Try.func12, Try.ntmps12
    go_wp2
    go_ret
    exact ⟨rfl, Below.refl _ _⟩
  · have hI := w0.2.2.2.2 (by omega)
    clear w0
    have hzl : z0.length ≤ 16777216 := by rw [hI.len]; exact hI.small
    have hez := eqL_refl z0
    go_enter Try.func12, Try.ntmps12
    go_wp2_with fail
    refine (h_toInt64S _ _ _ _ _ _ hI (Nat.le_refl _)).mono ?_
    rintro e w1 ⟨vs, rfl, hos, hbs⟩
    obtain ⟨As, cs, rfl, hs⟩ := hos.ints hzl
    have hI1 := hI.below hbs
    have z1 := hbs.size
    go_wp2_with fail
    refine (b_s_AgreedMembers _ _ _ _ _ _ hs).mono ?_
    rintro e w2 ⟨rfl, hb0⟩
    have hI2 := hI1.below' z1 hb0
    have z2 := hb0.size
    have hB2 := hbs.trans (hb0.mono z1)
    clear hos hs hb0 hbs
    go_wp2_with fail
    refine (h_toInt64S _ _ _ _ _ _ hI2 (by omega)).mono ?_
    rintro e w3 ⟨vx, rfl, hox, hbx⟩
    obtain ⟨Ax, cx, rfl, hx⟩ := hox.ints hzl
    have hI3 := hI2.below' (by omega) hbx
    have z3 := hbx.size
    have hB3 := hB2.trans (hbx.mono (by omega))
    clear hbx hB2
    go_wp2_with fail
    refine (b_i_AgreedMembers _ _ _ _ _ _ hx).mono ?_
    rintro e w4 ⟨rfl, hb1⟩
    have hI4 := hI3.below' (by omega) hb1
    have hx4 := hx.below hb1
    have z4 := hb1.size
    have hB4 := hB3.trans (hb1.mono (by omega))
    clear hb1 hB3 hx hox
    go_wp2_with fail
    refine (h_toInt64S _ _ _ _ _ _ hI4 (by omega)).mono ?_
    rintro e w6 ⟨vt, rfl, hot, hbt⟩
    obtain ⟨At, ct, rfl, ht⟩ := hot.ints hzl
    have hx6 := hx4.below' (by omega) hbt
    have hB6 := hB4.trans (hbt.mono (by omega))
    clear hot hbt hB4
    go_wp2_with fail
    refine (h_eqInt64S _ _ _ _ _ _ _ _ _ _ _ hx6 ht).mono ?_
    rintro e w7 ⟨rfl, m7, rfl⟩
    go_wp2_with fail
    go_ret
    exact ⟨rfl, below_drewN hB6 m7⟩
end Go.Proofs.Ytpndcbdfnclelaa

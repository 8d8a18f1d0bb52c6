/- The walk of the law on FitsDescriptor. -/
import Derived.Test.YtecelofoffdjlaaFit
import Derived.Deep.RegionHeld3
import Derived.RegionTactic
import Derived.BigRegion
import Derived.Deep.Cut
namespace Go.Proofs.Ytecelofoffdjlaa
open Go.RowKit
set_option linter.unusedSimpArgs false
set_option linter.unusedVariables false
theorem Below.undrew {w w' : World} {N : Nat} (h : Below (w.drewN N).heap.size (w.drewN N) w') : Below w.heap.size w w' := ⟨h.os, h.tape, h.output, h.size, h.block⟩
set_option maxHeartbeats 8000000 in
theorem w_FitsDescriptor (nd dk dz du : Int) (ch : Bool) (k q t m r s v : Int) (A : Option Addr) (n c : Nat) (xs : List Int) (w : World) (q0 : (Lit.int .i64 nd).wf = true) (q1 : (Lit.int .i64 dk).wf = true) (q2 : (Lit.int .i64 dz).wf = true) (q3 : (Lit.int .i64 du).wf = true) (w0 : ArgInts w A n c xs) :
    Calls Try.prog 6 #[.agg #[.int .i64 nd, .int .i64 dk, .int .i64 dz, .int .i64 du, .bool ch], .agg #[.int .i64 k, .int .i64 q, .int .i64 t, .int .i64 m, .int .i64 r, .int .i64 s, .int .i64 v, .slice A n c]] w fun e w' => e = .returned (.bool true) ∧ Below w.heap.size w w' := by
  clear q0 q1 q2 q3
  have hm : n ≤ maxLen := Nat.le_trans w0.1 w0.2.1
  obtain ⟨x1, x2⟩ := alloc2 w (.cells #[.int .i64 nd, .int .i64 dk, .int .i64 dz, .int .i64 du, .bool ch] 23) (.cells #[.int .i64 k, .int .i64 q, .int .i64 t, .int .i64 m, .int .i64 r, .int .i64 s, .int .i64 v, .slice A n c] 42)
  have X1 := Lib.hid x1; have X2 := Lib.hid x2; clear x1 x2
  by_cases hbig : 1048576 < n
  · have hs : decide ((1048576 : Int) - n < 0) = true := by simp; omega
    clear w0
    go_enter Try.func6, Try.ntmps6
    go_wp2_with fail
    refine (h_szFrame_no k q t m r s v A n c _ hbig hm).mono ?_
    rintro e w1 ⟨rfl, hb⟩
    go_wp2
    go_ret
    exact ⟨rfl, (((Below.refl _ _).alloc (Nat.le_refl _) _).alloc (by simp) _).trans (hb.mono (by simp; omega))⟩
  · have hI := w0.2.2.2.2 (by omega)
    clear w0 hm
    have hzl : xs.length ≤ 16777216 := by rw [hI.len]; exact hI.small
    go_enter Try.func6, Try.ntmps6
    go_wp2_with fail
    refine (h_szFrame_yes k q t m r s v A n c _ (by omega)).mono ?_
    rintro e w1 ⟨rfl, hb⟩
    have R1 := (hb.block w.heap.size (by simp; omega)).trans X1.out
    have Q1 := (hb.block (w.heap.size + 1) (by simp)).trans X2.out
    have B1 := (((Below.refl w.heap.size w).alloc (Nat.le_refl _) _).alloc (by simp) _).trans (hb.mono (by simp; omega))
    have z1 := Below.lt_of' Q1
    obtain ⟨c0, c1, c2, c3, c4, c5, c6, c7⟩ := fr_cells Q1
    obtain ⟨d0, d1, d2, d3, d4⟩ := desc_cells R1
    have HR1 := Lib.hid R1; have HQ1 := Lib.hid Q1; have HB1 := Lib.hid B1; have HI := Lib.hid hI
    clear hb X1 X2 R1 Q1 B1 hI
    go_wp2_with fail
    go_region_held3 (fun w' => w'.cell? ⟨w.heap.size, 0, none⟩ = some (.int .i64 nd) ∧ w'.cell? ⟨w.heap.size, 1, none⟩ = some (.int .i64 dk) ∧ w'.cell? ⟨w.heap.size, 2, none⟩ = some (.int .i64 dz) ∧ w'.cell? ⟨w.heap.size, 3, none⟩ = some (.int .i64 du) ∧ w'.cell? ⟨w.heap.size, 4, none⟩ = some (.bool ch) ∧ w'.cell? ⟨w.heap.size + 1, 0, none⟩ = some (.int .i64 k) ∧ w'.cell? ⟨w.heap.size + 1, 1, none⟩ = some (.int .i64 q) ∧ w'.cell? ⟨w.heap.size + 1, 2, none⟩ = some (.int .i64 t) ∧ w'.cell? ⟨w.heap.size + 1, 3, none⟩ = some (.int .i64 m) ∧ w'.cell? ⟨w.heap.size + 1, 4, none⟩ = some (.int .i64 r) ∧ w'.cell? ⟨w.heap.size + 1, 5, none⟩ = some (.int .i64 s) ∧ w'.cell? ⟨w.heap.size + 1, 6, none⟩ = some (.int .i64 v) ∧ w'.cell? ⟨w.heap.size + 1, 7, none⟩ = some (.slice A n c)) (go_keep) (first | (go_at_call 15; refine (h_toDescriptor nd dk dz du ch _).mono ?_; rintro e w2 ⟨rfl, hb2⟩; have hc2 : Below w1.heap.size w1 w2 := (by first | exact Below.undrew hb2 | exact hb2); have Q2 := (hc2.block (w.heap.size + 1) z1).trans HQ1.out; have HR2 := Lib.hid ((hc2.block w.heap.size (by omega)).trans HR1.out); have HB2 := Lib.hid (HB1.out.trans (hc2.mono (by omega))); have z2 := Below.lt_of' Q2; clear hb2 hc2 c0 c1 c2 c3 c4 c5 c6 c7 d0 d1 d2 d3 d4; obtain ⟨c0, c1, c2, c3, c4, c5, c6, c7⟩ := fr_cells Q2; obtain ⟨d0, d1, d2, d3, d4⟩ := desc_cells HR2.out; have HQ2 := Lib.hid Q2; clear Q2) | (go_at_call 28; refine (h_toFrame k q t m r s v A n c xs w.heap.size _ (HI.out.below (by first | exact HB2.out | exact below_drewN HB2.out _)) (by first | (show _ ≤ w2.heap.size; omega) | omega)).mono ?_; rintro e w3 ⟨vs, rfl, ho3, hb3⟩; obtain ⟨As, cs, rfl, I3⟩ := ho3.ints hzl; have hc3 : Below w2.heap.size w2 w3 := (by first | exact Below.undrew hb3 | exact hb3); have Q3 := (hc3.block (w.heap.size + 1) z2).trans HQ2.out; have HR3 := Lib.hid ((hc3.block w.heap.size (by omega)).trans HR2.out); have HB3 := Lib.hid (HB2.out.trans (hc3.mono (by omega))); have z3 := Below.lt_of' Q3; clear ho3 hb3 hc3 c0 c1 c2 c3 c4 c5 c6 c7 d0 d1 d2 d3 d4; obtain ⟨c0, c1, c2, c3, c4, c5, c6, c7⟩ := fr_cells Q3; obtain ⟨d0, d1, d2, d3, d4⟩ := desc_cells HR3.out; have HQ3 := Lib.hid Q3; clear Q3) | (go_at_call 27; refine (s_FitsDescriptor nd dk dz du ch k q t m r s v _ _ _ xs _ _ I3 (Nat.le_refl _)).mono ?_; rintro e w4 ⟨rfl, hb4⟩; have Q4 := (hb4.block (w.heap.size + 1) z3).trans HQ3.out; have HR4 := Lib.hid ((hb4.block w.heap.size (by omega)).trans HR3.out); have HB4 := Lib.hid (HB3.out.trans (hb4.mono (by omega))); have z4 := Below.lt_of' Q4; clear hb4 c0 c1 c2 c3 c4 c5 c6 c7 d0 d1 d2 d3 d4; obtain ⟨c0, c1, c2, c3, c4, c5, c6, c7⟩ := fr_cells Q4; obtain ⟨d0, d1, d2, d3, d4⟩ := desc_cells HR4.out; have HQ4 := Lib.hid Q4; clear Q4))
    clear HR1 HQ1 HB1 HR2 HQ2 HB2 HR3 HQ3 HB3 I3
    go_wp2_with fail
    refine (h_toFrame k q t m r s v A n c xs _ _ (HI.out.below HB4.out) (by omega)).mono ?_
    rintro e w5 ⟨vs, rfl, ho, hb⟩
    obtain ⟨Ax, cx, rfl, I⟩ := ho.ints hzl
    have z5 := hb.size
    have HR5 := Lib.hid ((Below.heap_alloc w5 (.cells #[.int .i64 k, .int .i64 q, .int .i64 t, .int .i64 m, .int .i64 r, .int .i64 s, .int .i64 v, .slice Ax xs.length cx] 47) w.heap.size (by omega)).trans ((hb.block w.heap.size (by omega)).trans HR4.out))
    have HQ5 := Lib.hid ((Below.heap_alloc w5 (.cells #[.int .i64 k, .int .i64 q, .int .i64 t, .int .i64 m, .int .i64 r, .int .i64 s, .int .i64 v, .slice Ax xs.length cx] 47) (w.heap.size + 1) (by omega)).trans ((hb.block (w.heap.size + 1) z4).trans HQ4.out))
    have HP5 := Lib.hid (heap_alloc_new w5 (.cells #[.int .i64 k, .int .i64 q, .int .i64 t, .int .i64 m, .int .i64 r, .int .i64 s, .int .i64 v, .slice Ax xs.length cx] 47))
    have HB5 := Lib.hid ((HB4.out.trans (hb.mono (by omega))).alloc (by omega) (.cells #[.int .i64 k, .int .i64 q, .int .i64 t, .int .i64 m, .int .i64 r, .int .i64 s, .int .i64 v, .slice Ax xs.length cx] 47))
    have HX5 := Lib.hid (I.alloc (Nat.le_refl _) (.cells #[.int .i64 k, .int .i64 q, .int .i64 t, .int .i64 m, .int .i64 r, .int .i64 s, .int .i64 v, .slice Ax xs.length cx] 47))
    have y5 : w5.heap.size < (w5.alloc (.cells #[.int .i64 k, .int .i64 q, .int .i64 t, .int .i64 m, .int .i64 r, .int .i64 s, .int .i64 v, .slice Ax xs.length cx] 47)).heap.size := by simp
    clear c0 c1 c2 c3 c4 c5 c6 c7 d0 d1 d2 d3 d4 HR4 HQ4 HB4 ho hb I
    go_upto_region 7 with fail
    generalize w5.alloc _ = W at HR5 HQ5 HP5 HB5 HX5 y5 ⊢
    generalize w5.heap.size = g at HP5 HX5 y5 z5 ⊢
    obtain ⟨d0, d1, d2, d3, d4⟩ := desc_cells HR5.out
    obtain ⟨c0, c1, c2, c3, c4, c5, c6, c7⟩ := fr_cells HQ5.out
    obtain ⟨e0, e1, e2, e3, e4, e5, e6, e7⟩ := fr_cells HP5.out
    go_region_held3 (fun w' => w'.cell? ⟨w.heap.size, 0, none⟩ = some (.int .i64 nd) ∧ w'.cell? ⟨w.heap.size, 1, none⟩ = some (.int .i64 dk) ∧ w'.cell? ⟨w.heap.size, 2, none⟩ = some (.int .i64 dz) ∧ w'.cell? ⟨w.heap.size, 3, none⟩ = some (.int .i64 du) ∧ w'.cell? ⟨w.heap.size, 4, none⟩ = some (.bool ch) ∧ w'.cell? ⟨w.heap.size + 1, 0, none⟩ = some (.int .i64 k) ∧ w'.cell? ⟨w.heap.size + 1, 1, none⟩ = some (.int .i64 q) ∧ w'.cell? ⟨w.heap.size + 1, 2, none⟩ = some (.int .i64 t) ∧ w'.cell? ⟨w.heap.size + 1, 3, none⟩ = some (.int .i64 m) ∧ w'.cell? ⟨w.heap.size + 1, 4, none⟩ = some (.int .i64 r) ∧ w'.cell? ⟨w.heap.size + 1, 5, none⟩ = some (.int .i64 s) ∧ w'.cell? ⟨w.heap.size + 1, 6, none⟩ = some (.int .i64 v) ∧ w'.cell? ⟨w.heap.size + 1, 7, none⟩ = some (.slice A n c) ∧ w'.cell? ⟨g, 0, none⟩ = some (.int .i64 k) ∧ w'.cell? ⟨g, 1, none⟩ = some (.int .i64 q) ∧ w'.cell? ⟨g, 2, none⟩ = some (.int .i64 t) ∧ w'.cell? ⟨g, 3, none⟩ = some (.int .i64 m) ∧ w'.cell? ⟨g, 4, none⟩ = some (.int .i64 r) ∧ w'.cell? ⟨g, 5, none⟩ = some (.int .i64 s) ∧ w'.cell? ⟨g, 6, none⟩ = some (.int .i64 v) ∧ w'.cell? ⟨g, 7, none⟩ = some (.slice Ax xs.length cx)) (go_keep) (first | (go_at_call 15; refine (h_toDescriptor nd dk dz du ch _).mono ?_; rintro e w6 ⟨rfl, hb6⟩; have hc6 : Below W.heap.size W w6 := (by first | exact Below.undrew hb6 | exact hb6); have HR6 := Lib.hid ((hc6.block w.heap.size (by omega)).trans HR5.out); have HQ6 := Lib.hid ((hc6.block (w.heap.size + 1) (by omega)).trans HQ5.out); have HP6 := Lib.hid ((hc6.block g (by omega)).trans HP5.out); have HB6 := Lib.hid (HB5.out.trans (hc6.mono (by omega))); have HX6 := Lib.hid (HX5.out.below' (by omega) hc6); have z6 := hc6.size; (try clear c0 c1 c2 c3 c4 c5 c6 c7 d0 d1 d2 d3 d4 e0 e1 e2 e3 e4 e5 e6 e7); obtain ⟨d0, d1, d2, d3, d4⟩ := desc_cells HR6.out; obtain ⟨c0, c1, c2, c3, c4, c5, c6, c7⟩ := fr_cells HQ6.out; obtain ⟨e0, e1, e2, e3, e4, e5, e6, e7⟩ := fr_cells HP6.out; clear hb6 hc6) | (go_at_call 29; refine (i_FitsDescriptor nd dk dz du ch k q t m r s v _ _ _ xs _ _ HX6.out (by first | (show _ ≤ w6.heap.size; omega) | omega)).mono ?_; rintro e w7 ⟨rfl, hb7⟩; have hc7 : Below w6.heap.size w6 w7 := (by first | exact Below.undrew hb7 | exact hb7); have HR7 := Lib.hid ((hc7.block w.heap.size (by omega)).trans HR6.out); have HQ7 := Lib.hid ((hc7.block (w.heap.size + 1) (by omega)).trans HQ6.out); have HP7 := Lib.hid ((hc7.block g (by omega)).trans HP6.out); have HB7 := Lib.hid (HB6.out.trans (hc7.mono (by omega))); have HX7 := Lib.hid (HX6.out.below' (by omega) hc7); have z7 := hc7.size; (try clear c0 c1 c2 c3 c4 c5 c6 c7 d0 d1 d2 d3 d4 e0 e1 e2 e3 e4 e5 e6 e7); obtain ⟨d0, d1, d2, d3, d4⟩ := desc_cells HR7.out; obtain ⟨c0, c1, c2, c3, c4, c5, c6, c7⟩ := fr_cells HQ7.out; obtain ⟨e0, e1, e2, e3, e4, e5, e6, e7⟩ := fr_cells HP7.out; clear hb7 hc7))
    clear HR5 HQ5 HP5 HB5 HX5 HR6 HQ6 HP6 HB6 HX6
    go_upto_region 10 with fail
    have hsX : Hid (IntsAt w7 w7.heap.size A n c xs) := Lib.hid (HI.out.below HB7.out |>.more HB7.out.size)
    go_region_held3 (fun w' => w'.cell? ⟨w.heap.size, 0, none⟩ = some (.int .i64 nd) ∧ w'.cell? ⟨w.heap.size, 1, none⟩ = some (.int .i64 dk) ∧ w'.cell? ⟨w.heap.size, 2, none⟩ = some (.int .i64 dz) ∧ w'.cell? ⟨w.heap.size, 3, none⟩ = some (.int .i64 du) ∧ w'.cell? ⟨w.heap.size, 4, none⟩ = some (.bool ch) ∧ w'.cell? ⟨w.heap.size + 1, 0, none⟩ = some (.int .i64 k) ∧ w'.cell? ⟨w.heap.size + 1, 1, none⟩ = some (.int .i64 q) ∧ w'.cell? ⟨w.heap.size + 1, 2, none⟩ = some (.int .i64 t) ∧ w'.cell? ⟨w.heap.size + 1, 3, none⟩ = some (.int .i64 m) ∧ w'.cell? ⟨w.heap.size + 1, 4, none⟩ = some (.int .i64 r) ∧ w'.cell? ⟨w.heap.size + 1, 5, none⟩ = some (.int .i64 s) ∧ w'.cell? ⟨w.heap.size + 1, 6, none⟩ = some (.int .i64 v) ∧ w'.cell? ⟨w.heap.size + 1, 7, none⟩ = some (.slice A n c) ∧ w'.cell? ⟨g, 0, none⟩ = some (.int .i64 k) ∧ w'.cell? ⟨g, 1, none⟩ = some (.int .i64 q) ∧ w'.cell? ⟨g, 2, none⟩ = some (.int .i64 t) ∧ w'.cell? ⟨g, 3, none⟩ = some (.int .i64 m) ∧ w'.cell? ⟨g, 4, none⟩ = some (.int .i64 r) ∧ w'.cell? ⟨g, 5, none⟩ = some (.int .i64 s) ∧ w'.cell? ⟨g, 6, none⟩ = some (.int .i64 v) ∧ w'.cell? ⟨g, 7, none⟩ = some (.slice Ax xs.length cx)) (go_keep) (first | (go_at_call 28; refine (h_toFrame k q t m r s v A n c xs w7.heap.size _ (by first | exact hsX.out | exact hsX.out.drewN _) (by first | (show _ ≤ w7.heap.size; omega) | omega)).mono ?_; rintro e w8 ⟨vs, rfl, ho8, hb8⟩; obtain ⟨At, ct, rfl, I8⟩ := ho8.ints hzl; have hc8 : Below w7.heap.size w7 w8 := (by first | exact Below.undrew hb8 | exact hb8); have HR8 := Lib.hid ((hc8.block w.heap.size (by omega)).trans HR7.out); have HQ8 := Lib.hid ((hc8.block (w.heap.size + 1) (by omega)).trans HQ7.out); have HP8 := Lib.hid ((hc8.block g (by omega)).trans HP7.out); have HB8 := Lib.hid (HB7.out.trans (hc8.mono (by omega))); have HX8 := Lib.hid (HX7.out.below' (by omega) hc8); have z8 := hc8.size; (try clear c0 c1 c2 c3 c4 c5 c6 c7 d0 d1 d2 d3 d4 e0 e1 e2 e3 e4 e5 e6 e7); obtain ⟨d0, d1, d2, d3, d4⟩ := desc_cells HR8.out; obtain ⟨c0, c1, c2, c3, c4, c5, c6, c7⟩ := fr_cells HQ8.out; obtain ⟨e0, e1, e2, e3, e4, e5, e6, e7⟩ := fr_cells HP8.out; clear ho8 hb8 hc8) | (go_at_call 30; refine (h_eqFrame k q t m r s v _ _ _ _ _ _ xs _ _ _ HX8.out I8 (by omega) (Nat.le_refl _)).mono ?_; rintro e w9 ⟨rfl, hb9⟩; have hc9 : Below w8.heap.size w8 w9 := (by first | exact Below.undrew hb9 | exact hb9); have HR9 := Lib.hid ((hc9.block w.heap.size (by omega)).trans HR8.out); have HQ9 := Lib.hid ((hc9.block (w.heap.size + 1) (by omega)).trans HQ8.out); have HP9 := Lib.hid ((hc9.block g (by omega)).trans HP8.out); have HB9 := Lib.hid (HB8.out.trans (hc9.mono (by omega))); have HX9 := Lib.hid (HX8.out.below' (by omega) hc9); have z9 := hc9.size; (try clear c0 c1 c2 c3 c4 c5 c6 c7 d0 d1 d2 d3 d4 e0 e1 e2 e3 e4 e5 e6 e7); obtain ⟨d0, d1, d2, d3, d4⟩ := desc_cells HR9.out; obtain ⟨c0, c1, c2, c3, c4, c5, c6, c7⟩ := fr_cells HQ9.out; obtain ⟨e0, e1, e2, e3, e4, e5, e6, e7⟩ := fr_cells HP9.out; clear hb9 hc9))
    go_wp2
    go_ret
    exact ⟨rfl, HB9.out⟩
end Go.Proofs.Ytecelofoffdjlaa

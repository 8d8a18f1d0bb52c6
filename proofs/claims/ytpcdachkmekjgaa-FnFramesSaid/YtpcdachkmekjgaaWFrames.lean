/- The walk of the law on frames and their bodies. -/
import Derived.Test.YtpcdachkmekjgaaLawF
import Derived.Test.YtpcdachkmekjgaaFFT
import Derived.Test.YtpcdachkmekjgaaFFU
import Derived.Deep.RegionHeld3
import Derived.BigRegion
namespace Go.Proofs.Ytpcdachkmekjgaa
open Go.RowKit
set_option linter.unusedSimpArgs false
set_option linter.unusedVariables false
set_option maxHeartbeats 4000000 in
theorem w_FnFrames (a0 : Option Addr) (len0 cap0 : Nat) (z0 : List Int) (w : World) (w0 : ArgBytes w a0 len0 cap0 z0) :
    Calls Try.prog 9 #[.slice a0 len0 cap0] w fun e w' => e = .returned (.bool true) ∧ Below w.heap.size w w' := by
  by_cases hbig : 4096 < len0
  · clear w0
    have hb : decide ((4096 : Int) < len0) = true := by simp; omega
    go_enter Try.func9, Try.ntmps9
    go_wp2_with (go_at_call 36; refine (h_big _ _ _ _).mono ?_; rintro e w' ⟨rfl, rfl⟩)
    go_ret
    exact ⟨rfl, Below.refl _ _⟩
  · have hI := w0.2.2 (by omega)
    have hb : decide ((4096 : Int) < len0) = false := by simp; omega
    clear w0
    go_enter Try.func9, Try.ntmps9
    go_wp2_with (go_at_call 36; refine (h_big _ _ _ _).mono ?_; rintro e w' ⟨rfl, rfl⟩)
    refine (s_DrawFrameBody _ _ _ _ _ _ hI (Nat.le_refl _)).mono ?_
    rintro e w1 ⟨k, q, t, m, r, s, v, vs, xs, rfl, hx, o1, BW⟩
    obtain ⟨A4, c4, rfl, I4⟩ := o1.ints (by omega)
    clear o1 hI
    have z1 := BW.size
    have R1 := heap_alloc_new w1 (.cells #[.int .i64 k, .int .i64 q, .int .i64 t, .int .i64 m, .int .i64 r, .int .i64 s, .int .i64 v, .slice A4 xs.length c4] 32)
    replace I4 := I4.alloc (Nat.le_refl _) (.cells #[.int .i64 k, .int .i64 q, .int .i64 t, .int .i64 m, .int .i64 r, .int .i64 s, .int .i64 v, .slice A4 xs.length c4] 32)
    replace BW := BW.alloc z1 (.cells #[.int .i64 k, .int .i64 q, .int .i64 t, .int .i64 m, .int .i64 r, .int .i64 s, .int .i64 v, .slice A4 xs.length c4] 32)
    have hx0 : (xs.length : Int) ≤ 10000 := by omega
    have HIF := Lib.hid (fun B W h hB => i_FrameBody k q t m r s v A4 xs.length c4 xs B W h hB)
    have HSF := Lib.hid (fun B W h hB => s_FrameBody k q t m r s v A4 xs.length c4 xs B W h hB)
    have HII := Lib.hid (fun B W h hB => i_IsFrame k q t m r s v A4 xs.length c4 xs B W h hB)
    have HSI := Lib.hid (fun B W h hB => s_IsFrame k q t m r s v A4 xs.length c4 xs B W h hB)
    have hL : (if frOk k q t m r s v xs then bodyL k q t m r s v xs else []).length ≤ 16777216 := by
      split
      · rename_i h; have := (bodyL_ok h).2.2.2.2.2.1; omega
      · simp
    have he := eqL_refl (if frOk k q t m r s v xs then bodyL k q t m r s v xs else [])
    have HL : frOk k q t m r s v xs = true → (if frOk k q t m r s v xs then bodyL k q t m r s v xs else []) = bodyL k q t m r s v xs := fun h => if_pos h
    have HLL := Lib.hid HL
    clear HL
    generalize (if frOk k q t m r s v xs then bodyL k q t m r s v xs else []) = L at *
    have HOK := Lib.hid (fun h : frOk k q t m r s v xs = true => (⟨bodyL_ok h, fb_back h⟩ : _ ∧ _))
    generalize hok : frOk k q t m r s v xs = ok at *
    clear hok
    have hcc : (fbC ok == fbC ok) = true := by simp
    have hcd : (fbC ok != fbC ok) = false := by simp
    have hoo : (ok != ok) = false := by simp
    go_upto_region 4 with fail
    generalize hg : w1.heap.size = g at *
    generalize w1.alloc _ = W1 at *
    have zg := Below.lt_of' R1
    obtain ⟨c0, c1, c2, c3, c4', c5, c6, c7⟩ := fr_cells R1
    go_wp2_with fail
    refine (HIF.out _ _ I4 (by omega)).mono ?_
    rintro e w2 ⟨u2, rfl, o2, b2⟩
    obtain ⟨A2, d2, rfl, I2⟩ := o2.ints hL
    replace R1 := (b2.block g (by omega)).trans R1
    replace I4 := I4.below' (by omega) b2
    replace BW := BW.trans (b2.mono (by omega))
    have z2 := b2.size
    clear o2 b2 c0 c1 c2 c3 c4' c5 c6 c7
    obtain ⟨c0, c1, c2, c3, c4', c5, c6, c7⟩ := fr_cells R1
    go_wp2_with fail
    refine (HSF.out _ _ I4 (by omega)).mono ?_
    rintro e w3 ⟨u3, rfl, o3, b3⟩
    obtain ⟨A3, d3, rfl, I3⟩ := o3.ints hL
    replace R1 := (b3.block g (by omega)).trans R1
    replace I4 := I4.below' (by omega) b3
    replace I2 := I2.below b3
    replace BW := BW.trans (b3.mono (by omega))
    have z3 := b3.size
    clear o3 b3 c0 c1 c2 c3 c4' c5 c6 c7
    obtain ⟨c0, c1, c2, c3, c4', c5, c6, c7⟩ := fr_cells R1
    go_upto_region 6 with fail
    go_region_held3 (fun w' => w'.cell? ⟨g, 0, none⟩ = some (.int .i64 k) ∧ w'.cell? ⟨g, 1, none⟩ = some (.int .i64 q) ∧ w'.cell? ⟨g, 2, none⟩ = some (.int .i64 t) ∧ w'.cell? ⟨g, 3, none⟩ = some (.int .i64 m) ∧ w'.cell? ⟨g, 4, none⟩ = some (.int .i64 r) ∧ w'.cell? ⟨g, 5, none⟩ = some (.int .i64 s) ∧ w'.cell? ⟨g, 6, none⟩ = some (.int .i64 v) ∧ w'.cell? ⟨g, 7, none⟩ = some (.slice A4 xs.length c4)) (go_keep) (first
      | (go_at_call 38; refine (h_likeInts _ _ _ _ _ _ _ _ _ _ _ I2.drew I3.drew).mono ?_; rintro e w4 ⟨rfl, m4, rfl⟩; rw [he])
      | (go_at_call 39; refine (HII.out _ _ (I4.drewN _) (show _ ≤ w3.heap.size by omega)).mono ?_; rintro e w5 ⟨rfl, b5⟩; have z5 : w3.heap.size ≤ w5.heap.size := b5.size; have R5 := (b5.block g (show g < w3.heap.size by omega)).trans R1; have I45 := (I4.drewN _).below' (show _ ≤ w3.heap.size by omega) b5; have I25 := (I2.drewN _).below' (show _ ≤ w3.heap.size by omega) b5; have I35 := (I3.drewN _).below' (show _ ≤ w3.heap.size by omega) b5; have BW5 := (below_drewN BW _).trans (Below.mono (B := w3.heap.size) b5 (by omega)); obtain ⟨c0, c1, c2, c3, c4', c5, c6, c7⟩ := fr_cells R5)
      | (go_at_call 40; refine (HSI.out _ _ I45 (by omega)).mono ?_; rintro e w6 ⟨rfl, b6⟩; have z6 : w5.heap.size ≤ w6.heap.size := b6.size; have R6 := (b6.block g (by omega)).trans R5; have I46 := I45.below' (by omega) b6; have I26 := I25.below' (by omega) b6; have I36 := I35.below' (by omega) b6; have BW6 := BW5.trans (Below.mono (B := w5.heap.size) b6 (by omega)); obtain ⟨c0, c1, c2, c3, c4', c5, c6, c7⟩ := fr_cells R6))
    clear HIF HSF HII HSI I4 I2 I3 R1 BW I45 I25 I35 BW5 R5 he hcc hcd hoo
    have z6' := Below.lt_of' R6
    cases ok
    · have hf0 : (fbC false != 0) = true := by decide
      clear HOK HLL
      go_wp2
      go_ret
      exact ⟨rfl, BW6⟩
    · have hf0 : (fbC true != 0) = false := by decide
      obtain ⟨⟨p1, p2, p3, p4, p5, p6, p7⟩, q1, q2, q3, q4, q5, q6, q7, q8⟩ := HOK.out rfl
      have hLB := HLL.out rfl
      rw [← hLB] at p1 p2 p4 p5 p6 p7 q1 q2 q3 q4 q5 q6 q7 q8
      clear HOK HLL hLB
      have HFF := Lib.hid (fun W h => i_FrameFromBody A2 L.length d2 L W.heap.size W h (Nat.le_refl _))
      have HBS := Lib.hid (fun W => i_BodySize k (xs.length : Int) W)
      have HKH := Lib.hid (fun W => i_KindOfHead (L.getD 0 0) W)
      simp only [ffV, p1, if_true, q1, q2, q3, q4, q5, q6, q7, q8] at HFF
      rw [p2, p3] at HBS
      rw [p4, p5] at HKH
      have p7' : (0 : Int) < (L.length : Int) := by omega
      obtain ⟨am, eam, -, hm⟩ := I36.at_ 0 p7
      subst eam
      have hm0 : w6.cell? am = some (.int .i64 (L.getD 0 0)) := by simpa [Addr.add] using hm
      clear hm
      generalize L.getD 0 0 = hd at *
      clear p1 p2 p3 p4 p5 q1 q2 q3 q4 q5 q6 q7 q8 p7
      have I2f := I26.more (show _ ≤ w6.heap.size by omega)
      have hab : am.block < w6.heap.size := cell_lt hm0
      go_wp2_with fail
      refine (HFF.out _ I2f).mono ?_
      rintro e w7 ⟨sl, rfl, o7, b7⟩
      obtain ⟨A7, c7', rfl, I7⟩ := o7.ints (by omega)
      have z7 := b7.size
      have R7 := ((Below.heap_alloc w7 (.cells #[.int .i64 k, .int .i64 q, .int .i64 t, .int .i64 m, .int .i64 r, .int .i64 s, .int .i64 v, .slice A7 xs.length c7'] 32) g (by omega)).trans (b7.block g (by omega))).trans R6
      have Q7 := heap_alloc_new w7 (.cells #[.int .i64 k, .int .i64 q, .int .i64 t, .int .i64 m, .int .i64 r, .int .i64 s, .int .i64 v, .slice A7 xs.length c7'] 32)
      have I47 := (I46.below' (by omega) b7).alloc (by omega) (.cells #[.int .i64 k, .int .i64 q, .int .i64 t, .int .i64 m, .int .i64 r, .int .i64 s, .int .i64 v, .slice A7 xs.length c7'] 32)
      have I77 := I7.alloc (Nat.le_refl _) (.cells #[.int .i64 k, .int .i64 q, .int .i64 t, .int .i64 m, .int .i64 r, .int .i64 s, .int .i64 v, .slice A7 xs.length c7'] 32)
      have BW7 := (BW6.trans (b7.mono (by omega))).alloc (by omega) (.cells #[.int .i64 k, .int .i64 q, .int .i64 t, .int .i64 m, .int .i64 r, .int .i64 s, .int .i64 v, .slice A7 xs.length c7'] 32)
      have hm7 := (World.cell?_alloc_lt w7 (.cells #[.int .i64 k, .int .i64 q, .int .i64 t, .int .i64 m, .int .i64 r, .int .i64 s, .int .i64 v, .slice A7 xs.length c7'] 32) am (by omega)).trans ((b7.cell (p := am) hab).trans hm0)
      have y7 : w7.heap.size < (w7.alloc (.cells #[.int .i64 k, .int .i64 q, .int .i64 t, .int .i64 m, .int .i64 r, .int .i64 s, .int .i64 v, .slice A7 xs.length c7'] 32)).heap.size := by simp
      clear R6 I46 I7 o7 BW6 hm0 I26 I36 I2f b7 c0 c1 c2 c3 c4' c5 c6 c7
      obtain ⟨c0, c1, c2, c3, c4', c5, c6, c7⟩ := fr_cells R7
      obtain ⟨x0, x1, x2, x3, x4, x5, x6, x7⟩ := fr_cells Q7
      have l4 : g < w7.heap.size := by omega
      have ne4 : g ≠ w7.heap.size := by omega
      go_upto_region 11 with fail
      generalize w7.alloc _ = W7 at *
      generalize w7.heap.size = g7 at *
      clear l4 ne4
      go_wp2_with (first | (go_at_call 41; refine (HBS.out _).mono ?_; rintro e w' ⟨rfl, rfl⟩) | (go_at_call 42; refine (HKH.out _).mono ?_; rintro e w' ⟨rfl, rfl⟩))
      refine (h_likeFrames k q t m r s v _ _ _ _ _ _ xs _ _ _ I77 I47 (by omega) (by omega)).mono ?_
      rintro e w8 ⟨rfl, b8⟩
      have R8 := (b8.block g (Below.lt_of' R7)).trans R7
      obtain ⟨c0, c1, c2, c3, c4', c5, c6, c7⟩ := fr_cells R8
      go_wp2
      go_ret
      exact ⟨rfl, BW7.trans (b8.mono (by omega))⟩
end Go.Proofs.Ytpcdachkmekjgaa

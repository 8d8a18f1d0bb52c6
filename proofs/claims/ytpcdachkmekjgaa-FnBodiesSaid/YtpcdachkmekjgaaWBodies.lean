/- The walk of the law on bodies that are read. -/
import Derived.Test.YtpcdachkmekjgaaDrawI
import Derived.Test.YtpcdachkmekjgaaFFT
import Derived.Test.YtpcdachkmekjgaaFFU
namespace Go.Proofs.Ytpcdachkmekjgaa
open Go.RowKit
set_option linter.unusedSimpArgs false
set_option linter.unusedVariables false
theorem ff_back {xs : List Int} (h : ffC xs = 0) : frOk (ffV xs (hdK xs)) (ffV xs (hdQ xs)) (ffV xs (stF xs 0 16)) (ffV xs (stF xs 16 4)) (ffV xs (stF xs 20 4)) (ffV xs (stF xs 24 8)) (ffV xs (stF xs 32 32)) (if ffC xs = 0 then hdD xs else []) = true ∧
    bodyL (ffV xs (hdK xs)) (ffV xs (hdQ xs)) (ffV xs (stF xs 0 16)) (ffV xs (stF xs 16 4)) (ffV xs (stF xs 20 4)) (ffV xs (stF xs 24 8)) (ffV xs (stF xs 32 32)) (if ffC xs = 0 then hdD xs else []) = xs := by
  simp only [ffV, h, if_true]
  unfold ffC at h
  split at h
  · split at h
    · rename_i hf
      simp only [fbOk, Bool.and_eq_true, eqL, decide_eq_true_eq] at hf
      exact ⟨hf.1.2, hf.2⟩
    · simp at h
  · simp at h
theorem ff_len (xs : List Int) : (if ffC xs = 0 then hdD xs else []).length ≤ 1100 := by
  by_cases h : ffC xs = 0
  · have h1 := (fr_st (ff_back h).1).2.2.1
    have := sizeOk_bd h1
    omega
  · rw [if_neg h]; simp
set_option maxHeartbeats 4000000 in
theorem w_FnBodies (a0 : Option Addr) (len0 cap0 : Nat) (z0 : List Int) (w : World) (w0 : ArgBytes w a0 len0 cap0 z0) :
    Calls Try.prog 10 #[.slice a0 len0 cap0] w fun e w' => e = .returned (.bool true) ∧ Below w.heap.size w w' := by
  by_cases hbig : 4096 < len0
  · clear w0
    have hb : decide ((4096 : Int) < len0) = true := by simp; omega
    go_enter Try.func10, Try.ntmps10
    go_wp2_with (go_at_call 36; refine (h_big _ _ _ _).mono ?_; rintro e w' ⟨rfl, rfl⟩)
    go_ret
    exact ⟨rfl, Below.refl _ _⟩
  · have hI := w0.2.2 (by omega)
    have hb : decide ((4096 : Int) < len0) = false := by simp; omega
    clear w0
    go_enter Try.func10, Try.ntmps10
    go_wp2_with (go_at_call 36; refine (h_big _ _ _ _).mono ?_; rintro e w' ⟨rfl, rfl⟩)
    refine (s_DrawFrameFromBody _ _ _ _ _ _ hI (Nat.le_refl _)).mono ?_
    rintro e w1 ⟨A1, n1, c1, xs, rfl, I1, hn1, BW⟩
    have z1 := BW.size
    clear hI hb hbig
    have HI := Lib.hid (fun B W h hB => i_FrameFromBody A1 n1 c1 xs B W h hB)
    have HS := Lib.hid (fun B W h hB => s_FrameFromBody A1 n1 c1 xs B W h hB)
    have HB := Lib.hid (@ff_back xs)
    have hD := ff_len xs
    generalize (if ffC xs = 0 then hdD xs else []) = D at *
    generalize ffV xs (hdK xs) = k at *
    generalize ffV xs (hdQ xs) = q at *
    generalize ffV xs (stF xs 0 16) = t at *
    generalize ffV xs (stF xs 16 4) = m at *
    generalize ffV xs (stF xs 20 4) = r at *
    generalize ffV xs (stF xs 24 8) = s at *
    generalize ffV xs (stF xs 32 32) = v at *
    generalize ffC xs = C at *
    have hcd : (C != C) = false := by simp
    go_upto_region 4 with fail
    generalize hg1 : w1.heap.size = g1 at *
    go_wp2_with fail
    refine (HI.out _ _ I1 (by omega)).mono ?_
    rintro e w2 ⟨u2, rfl, o2, b2⟩
    obtain ⟨A2, d2, rfl, I2⟩ := o2.ints (by omega)
    have z2 := b2.size
    have R2 := heap_alloc_new w2 (.cells #[.int .i64 k, .int .i64 q, .int .i64 t, .int .i64 m, .int .i64 r, .int .i64 s, .int .i64 v, .slice A2 D.length d2] 32)
    replace I1 := (I1.below' (by omega) b2).alloc (by omega) (.cells #[.int .i64 k, .int .i64 q, .int .i64 t, .int .i64 m, .int .i64 r, .int .i64 s, .int .i64 v, .slice A2 D.length d2] 32)
    replace BW := (BW.trans (b2.mono (by omega))).alloc (by omega) (.cells #[.int .i64 k, .int .i64 q, .int .i64 t, .int .i64 m, .int .i64 r, .int .i64 s, .int .i64 v, .slice A2 D.length d2] 32)
    replace I2 := I2.alloc (Nat.le_refl _) (.cells #[.int .i64 k, .int .i64 q, .int .i64 t, .int .i64 m, .int .i64 r, .int .i64 s, .int .i64 v, .slice A2 D.length d2] 32)
    clear o2 b2 HI
    go_upto_region 5 with fail
    generalize hg2 : w2.heap.size = g2 at *
    generalize w2.alloc _ = W2 at *
    have y2 := Below.lt_of' R2
    go_wp2_with fail
    refine (HS.out _ _ I1 (by omega)).mono ?_
    rintro e w3 ⟨u3, rfl, o3, b3⟩
    obtain ⟨A3, d3, rfl, I3⟩ := o3.ints (by omega)
    have z3 := b3.size
    have R3 := heap_alloc_new w3 (.cells #[.int .i64 k, .int .i64 q, .int .i64 t, .int .i64 m, .int .i64 r, .int .i64 s, .int .i64 v, .slice A3 D.length d3] 32)
    replace R2 := ((Below.heap_alloc w3 (.cells #[.int .i64 k, .int .i64 q, .int .i64 t, .int .i64 m, .int .i64 r, .int .i64 s, .int .i64 v, .slice A3 D.length d3] 32) g2 (by omega)).trans (b3.block g2 (by omega))).trans R2
    replace I1 := (I1.below' (by omega) b3).alloc (by omega) (.cells #[.int .i64 k, .int .i64 q, .int .i64 t, .int .i64 m, .int .i64 r, .int .i64 s, .int .i64 v, .slice A3 D.length d3] 32)
    replace I2 := (I2.below' (by omega) b3).alloc (by omega) (.cells #[.int .i64 k, .int .i64 q, .int .i64 t, .int .i64 m, .int .i64 r, .int .i64 s, .int .i64 v, .slice A3 D.length d3] 32)
    replace BW := (BW.trans (b3.mono (by omega))).alloc (by omega) (.cells #[.int .i64 k, .int .i64 q, .int .i64 t, .int .i64 m, .int .i64 r, .int .i64 s, .int .i64 v, .slice A3 D.length d3] 32)
    replace I3 := I3.alloc (Nat.le_refl _) (.cells #[.int .i64 k, .int .i64 q, .int .i64 t, .int .i64 m, .int .i64 r, .int .i64 s, .int .i64 v, .slice A3 D.length d3] 32)
    clear o3 b3 HS
    obtain ⟨c0, e1, c2, c3, c4, c5, c6, c7⟩ := fr_cells R2
    obtain ⟨x0, x1, x2, x3, x4, x5, x6, x7⟩ := fr_cells R3
    have l2 : g2 < w3.heap.size := by omega
    have n2 : g2 ≠ w3.heap.size := by omega
    go_upto_region 6 with fail
    generalize hg3 : w3.heap.size = g3 at *
    generalize w3.alloc _ = W3 at *
    have y3 := Below.lt_of' R3
    clear l2 n2
    go_wp2_with fail
    refine (h_likeFrames k q t m r s v _ _ _ _ _ _ D _ _ _ I2 I3 (by omega) (by omega)).mono ?_
    rintro e w4 ⟨rfl, b4⟩
    have z4 := b4.size
    have R4 := (b4.block g2 (by omega)).trans R2
    replace I1 := I1.below' (by omega) b4
    replace I2 := I2.below' (by omega) b4
    replace BW := BW.trans (b4.mono (by omega))
    clear R2 R3 I3 b4 c0 e1 c2 c3 c4 c5 c6 c7 x0 x1 x2 x3 x4 x5 x6 x7
    by_cases hC : C = 0
    · subst hC
      obtain ⟨hok, hbk⟩ := HB.out rfl
      have HF := fun B W h hB => i_FrameBody k q t m r s v A2 D.length d2 D B W h hB
      simp only [hok, hbk, if_true] at HF
      replace HF := Lib.hid HF
      clear hok hbk HB
      have hf0 : (fbC true == 0) = true := by decide
      obtain ⟨c0, e1, c2, c3, c4, c5, c6, c7⟩ := fr_cells R4
      go_wp2_with fail
      refine (HF.out _ _ I2 (by omega)).mono ?_
      rintro e w5 ⟨u5, rfl, o5, b5⟩
      obtain ⟨A5, d5, rfl, I5⟩ := o5.ints (by have := I1.le; have := I1.len; omega)
      replace I1 := I1.below' (by omega) b5
      replace BW := BW.trans (b5.mono (by omega))
      have he := eqL_refl xs
      go_wp2_with fail
      refine (h_likeInts _ _ _ _ _ _ _ _ _ _ _ I5 I1).mono ?_
      rintro e w6 ⟨rfl, m6, rfl⟩
      rw [he]
      go_wp2
      go_ret
      exact ⟨rfl, below_drewN BW _⟩
    · have hf0 : (C != 0) = true := by simpa using hC
      clear HB
      go_wp2
      go_ret
      exact ⟨rfl, BW⟩
end Go.Proofs.Ytpcdachkmekjgaa

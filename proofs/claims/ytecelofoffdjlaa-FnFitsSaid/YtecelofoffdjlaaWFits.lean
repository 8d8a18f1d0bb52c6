/- The walk of the law on frames that fit. -/
import Derived.Test.YtecelofoffdjlaaDrawG
import Derived.Test.YtecelofoffdjlaaFit
import Derived.Test.YtecelofoffdjlaaEmp3
namespace Go.Proofs.Ytecelofoffdjlaa
open Go.RowKit
set_option linter.unusedSimpArgs false
set_option linter.unusedVariables false
theorem h_bigF (A : Option Addr) (n c : Nat) (w : World) :
    Calls Try.prog 40 #[.slice A n c] w fun e w' => e = .returned (.bool (decide ((4096 : Int) < n))) ∧ w = w' := by
  go_enter Try.func40, Try.ntmps40
  go_wp2
  go_ret
  exact ⟨rfl, rfl⟩
theorem fit_parts {nd dk dz du : Int} {ch : Bool} {k q t m r s v : Int} {xs : List Int} (h : fitOk nd dk dz du ch k q t m r s v xs = true) :
    frOk k q t m r s v xs = true ∧ k = dk ∧ (xs.length : Int) = dz := by
  simp only [fitOk, fitB, Bool.and_eq_true] at h
  exact ⟨h.1.2, by simpa using h.2.1.1, by simpa using h.2.1.2⟩
theorem emp_fits (nd dk dz du : Int) (ch : Bool) (t m r s v : Int) (h : efC nd dk dz du ch t m r s v = 0) :
    fitOk nd dk dz du ch (efX (efC nd dk dz du ch t m r s v) dk) 0 (efX (efC nd dk dz du ch t m r s v) (stZ dk t)) (efX (efC nd dk dz du ch t m r s v) (stZ dk m)) (efX (efC nd dk dz du ch t m r s v) (stZ dk r)) (efX (efC nd dk dz du ch t m r s v) (stZ dk s)) (efX (efC nd dk dz du ch t m r s v) (stZ dk v)) (efL (efC nd dk dz du ch t m r s v) dz) = true := by
  rw [h]
  simp only [efX, efL, if_true]
  cases hd : descOk nd dk dz du ch
  · simp [efC, hd] at h
  · obtain ⟨h0, h1⟩ := desc_dz hd
    cases hf : frOk dk 0 (stZ dk t) (stZ dk m) (stZ dk r) (stZ dk s) (stZ dk v) (List.replicate dz.toNat 0)
    · simp [efC, hd, hf] at h
    · simp only [fitOk, fitB, hd, hf, Bool.true_and, List.length_replicate, beq_self_eq_true, Bool.true_or, Bool.and_true, beq_iff_eq]
      omega
theorem efL_len' (nd dk dz du : Int) (ch : Bool) (t m r s v : Int) : (efL (efC nd dk dz du ch t m r s v) dz).length ≤ 10000 := by
  unfold efL; split
  · rename_i hc
    cases hd : descOk nd dk dz du ch
    · simp [efC, hd] at hc
    · have := desc_dz hd; simp; omega
  · simp
set_option maxHeartbeats 4000000 in
theorem w_FnFits (a0 : Option Addr) (len0 cap0 : Nat) (z0 : List Int) (w : World) (w0 : ArgBytes w a0 len0 cap0 z0) :
    Calls Try.prog 12 #[.slice a0 len0 cap0] w fun e w' => e = .returned (.bool true) ∧ Below w.heap.size w w' := by
  by_cases hbig : 4096 < len0
  · clear w0
    have hb : decide ((4096 : Int) < len0) = true := by simp; omega
    go_enter Try.func12, Try.ntmps12
    go_wp2_with (go_at_call 40; refine (h_bigF _ _ _ _).mono ?_; rintro e w' ⟨rfl, rfl⟩)
    go_ret
    exact ⟨rfl, Below.refl _ _⟩
  · have hI := w0.2.2 (by omega)
    have hb : decide ((4096 : Int) < len0) = false := by simp; omega
    clear w0
    go_enter Try.func12, Try.ntmps12
    go_wp2_with (go_at_call 40; refine (h_bigF _ _ _ _).mono ?_; rintro e w' ⟨rfl, rfl⟩)
    refine (s_DrawFitsDescriptor _ _ _ _ _ _ hI (Nat.le_refl _)).mono ?_
    rintro e w1 ⟨nd, k, sz, du, ch, fk, q, t, m, r, s, v, vs, xs, rfl, hx, o1, BW⟩
    obtain ⟨A4, c4, rfl, I4⟩ := o1.ints (by omega)
    clear o1
    have z1 := BW.size
    obtain ⟨R3, R4⟩ := alloc2 w1 (.cells #[.int .i64 nd, .int .i64 k, .int .i64 sz, .int .i64 du, .bool ch] 26) (.cells #[.int .i64 fk, .int .i64 q, .int .i64 t, .int .i64 m, .int .i64 r, .int .i64 s, .int .i64 v, .slice A4 xs.length c4] 47)
    replace I4 := (I4.alloc (Nat.le_refl _) (.cells #[.int .i64 nd, .int .i64 k, .int .i64 sz, .int .i64 du, .bool ch] 26)).alloc (by simp) (.cells #[.int .i64 fk, .int .i64 q, .int .i64 t, .int .i64 m, .int .i64 r, .int .i64 s, .int .i64 v, .slice A4 xs.length c4] 47)
    replace BW := (BW.alloc z1 (.cells #[.int .i64 nd, .int .i64 k, .int .i64 sz, .int .i64 du, .bool ch] 26)).alloc (by simp; omega) (.cells #[.int .i64 fk, .int .i64 q, .int .i64 t, .int .i64 m, .int .i64 r, .int .i64 s, .int .i64 v, .slice A4 xs.length c4] 47)
    go_upto_region 4 with fail
    generalize hW : World.alloc _ _ = W1 at R3 R4 I4 BW ⊢
    have y1 : w1.heap.size + 1 < W1.heap.size := Below.ltK R4
    clear hW
    generalize w1.heap.size + 1 = g4 at R4 y1 ⊢
    generalize hg3 : w1.heap.size = g3 at R3 I4 z1 ⊢
    clear hg3
    have yI4 : g3 < W1.heap.size := Below.ltK R3
    obtain ⟨x0, x1, x2, x3, x4⟩ := desc_cells R3
    obtain ⟨y0, y1, y2, y3, y4, y5, y6, y7⟩ := fr_cells R4
    go_wp2_with fail
    refine (i_FitsDescriptor nd k sz du ch fk q t m r s v _ _ _ xs _ _ I4 (by omega)).mono ?_
    rintro e w2 ⟨rfl, b2⟩
    generalize hok : fitOk nd k sz du ch fk q t m r s v xs = ok
    have HOK := Lib.hid hok
    clear hok
    clear x0 x1 x2 x3 x4 y0 y1 y2 y3 y4 y5 y6 y7
    replace R3 := (b2.block _ (Below.ltK R3)).trans R3
    replace R4 := (b2.block _ (Below.ltK R4)).trans R4
    replace I4 := I4.below' (by omega) b2
    replace BW := BW.trans (b2.mono BW.size)
    have z2 := b2.size
    clear b2
    go_wp2_with fail
    refine (s_DrawEmptyFrame _ _ _ _ _ _ (hI.below BW) BW.size).mono ?_
    rintro e w3 ⟨nd2, k2, sz2, du2, ch2, t2, m2, r2, s2, v2, rfl, b3⟩
    replace R3 := (b3.block _ (Below.ltK R3)).trans R3
    replace R4 := (b3.block _ (Below.ltK R4)).trans R4
    replace I4 := I4.below' (by omega) b3
    replace BW := BW.trans (b3.mono BW.size)
    have z3 := b3.size
    clear b3 hI
    obtain ⟨R6, R7⟩ := alloc2 w3 (.cells #[.int .i64 nd2, .int .i64 k2, .int .i64 sz2, .int .i64 du2, .bool ch2] 26) (.cells #[.int .i64 t2, .int .i64 m2, .int .i64 r2, .int .i64 s2, .int .i64 v2] 45)
    replace R3 := (Below.heap_alloc w3 (.cells #[.int .i64 nd2, .int .i64 k2, .int .i64 sz2, .int .i64 du2, .bool ch2] 26) _ (Below.ltK R3)).trans R3
    replace R4 := (Below.heap_alloc w3 (.cells #[.int .i64 nd2, .int .i64 k2, .int .i64 sz2, .int .i64 du2, .bool ch2] 26) _ (Below.ltK R4)).trans R4
    replace I4 := I4.alloc (by omega) (.cells #[.int .i64 nd2, .int .i64 k2, .int .i64 sz2, .int .i64 du2, .bool ch2] 26)
    replace BW := BW.alloc BW.size (.cells #[.int .i64 nd2, .int .i64 k2, .int .i64 sz2, .int .i64 du2, .bool ch2] 26)
    replace R3 := (Below.heap_alloc (w3.alloc (.cells #[.int .i64 nd2, .int .i64 k2, .int .i64 sz2, .int .i64 du2, .bool ch2] 26)) (.cells #[.int .i64 t2, .int .i64 m2, .int .i64 r2, .int .i64 s2, .int .i64 v2] 45) _ (Below.ltK R3)).trans R3
    replace R4 := (Below.heap_alloc (w3.alloc (.cells #[.int .i64 nd2, .int .i64 k2, .int .i64 sz2, .int .i64 du2, .bool ch2] 26)) (.cells #[.int .i64 t2, .int .i64 m2, .int .i64 r2, .int .i64 s2, .int .i64 v2] 45) _ (Below.ltK R4)).trans R4
    replace I4 := I4.alloc (by simp; omega) (.cells #[.int .i64 t2, .int .i64 m2, .int .i64 r2, .int .i64 s2, .int .i64 v2] 45)
    replace BW := BW.alloc BW.size (.cells #[.int .i64 t2, .int .i64 m2, .int .i64 r2, .int .i64 s2, .int .i64 v2] 45)
    go_upto_region 6 with fail
    generalize hW : World.alloc _ _ = W3 at R3 R4 R6 R7 I4 BW ⊢
    have y3 : w3.heap.size + 1 < W3.heap.size := Below.ltK R7
    clear hW
    generalize w3.heap.size + 1 = g7 at R7 y3 ⊢
    generalize hg6 : w3.heap.size = g6 at R6 z3 ⊢
    clear hg6
    have y6 : g6 < W3.heap.size := Below.ltK R6
    have hfit := emp_fits nd2 k2 sz2 du2 ch2 t2 m2 r2 s2 v2
    have hLn := efL_len' nd2 k2 sz2 du2 ch2 t2 m2 r2 s2 v2
    have HI := Lib.hid (fun w => i_EmptyFrame nd2 k2 sz2 du2 ch2 t2 m2 r2 s2 v2 w)
    have HS := Lib.hid (fun w => s_EmptyFrame nd2 k2 sz2 du2 ch2 t2 m2 r2 s2 v2 w)
    unfold EmpPost at HI HS
    generalize efX (efC nd2 k2 sz2 du2 ch2 t2 m2 r2 s2 v2) k2 = K at hfit HI HS
    generalize efX (efC nd2 k2 sz2 du2 ch2 t2 m2 r2 s2 v2) (stZ k2 t2) = T at hfit HI HS
    generalize efX (efC nd2 k2 sz2 du2 ch2 t2 m2 r2 s2 v2) (stZ k2 m2) = M at hfit HI HS
    generalize efX (efC nd2 k2 sz2 du2 ch2 t2 m2 r2 s2 v2) (stZ k2 r2) = R at hfit HI HS
    generalize efX (efC nd2 k2 sz2 du2 ch2 t2 m2 r2 s2 v2) (stZ k2 s2) = S at hfit HI HS
    generalize efX (efC nd2 k2 sz2 du2 ch2 t2 m2 r2 s2 v2) (stZ k2 v2) = V at hfit HI HS
    generalize efL (efC nd2 k2 sz2 du2 ch2 t2 m2 r2 s2 v2) sz2 = L at hfit hLn HI HS
    generalize efC nd2 k2 sz2 du2 ch2 t2 m2 r2 s2 v2 = C at hfit HI HS
    have HF := Lib.hid hfit
    clear hfit
    obtain ⟨x0, x1, x2, x3, x4⟩ := desc_cells R3
    obtain ⟨y0, y1, y2, y3, y4, y5, y6, y7⟩ := fr_cells R4
    obtain ⟨p0, p1, p2, p3, p4⟩ := desc_cells R6
    obtain ⟨u0, u1, u2, u3, u4⟩ := desc_cells R7
    go_wp2_with fail
    refine (HI.out _).mono ?_
    rintro e w4 ⟨v8, rfl, o8, b4⟩
    obtain ⟨A8, c8, rfl, I8⟩ := o8.ints (by omega)
    clear o8
    clear x0 x1 x2 x3 x4 y0 y1 y2 y3 y4 y5 y6 y7 p0 p1 p2 p3 p4 u0 u1 u2 u3 u4
    replace R3 := (b4.block _ (Below.ltK R3)).trans R3
    replace R4 := (b4.block _ (Below.ltK R4)).trans R4
    replace R6 := (b4.block _ (Below.ltK R6)).trans R6
    replace R7 := (b4.block _ (Below.ltK R7)).trans R7
    replace I4 := I4.below' (by omega) b4
    replace BW := BW.trans (b4.mono BW.size)
    have z4 := b4.size
    clear b4
    have R8 := heap_alloc_new w4 (.cells #[.int .i64 K, .int .i64 0, .int .i64 T, .int .i64 M, .int .i64 R, .int .i64 S, .int .i64 V, .slice A8 L.length c8] 47)
    replace I8 := I8.alloc (Nat.le_refl _) (.cells #[.int .i64 K, .int .i64 0, .int .i64 T, .int .i64 M, .int .i64 R, .int .i64 S, .int .i64 V, .slice A8 L.length c8] 47)
    replace R3 := (Below.heap_alloc w4 (.cells #[.int .i64 K, .int .i64 0, .int .i64 T, .int .i64 M, .int .i64 R, .int .i64 S, .int .i64 V, .slice A8 L.length c8] 47) _ (Below.ltK R3)).trans R3
    replace R4 := (Below.heap_alloc w4 (.cells #[.int .i64 K, .int .i64 0, .int .i64 T, .int .i64 M, .int .i64 R, .int .i64 S, .int .i64 V, .slice A8 L.length c8] 47) _ (Below.ltK R4)).trans R4
    replace R6 := (Below.heap_alloc w4 (.cells #[.int .i64 K, .int .i64 0, .int .i64 T, .int .i64 M, .int .i64 R, .int .i64 S, .int .i64 V, .slice A8 L.length c8] 47) _ (Below.ltK R6)).trans R6
    replace R7 := (Below.heap_alloc w4 (.cells #[.int .i64 K, .int .i64 0, .int .i64 T, .int .i64 M, .int .i64 R, .int .i64 S, .int .i64 V, .slice A8 L.length c8] 47) _ (Below.ltK R7)).trans R7
    replace I4 := I4.alloc (by omega) (.cells #[.int .i64 K, .int .i64 0, .int .i64 T, .int .i64 M, .int .i64 R, .int .i64 S, .int .i64 V, .slice A8 L.length c8] 47)
    replace BW := BW.alloc BW.size (.cells #[.int .i64 K, .int .i64 0, .int .i64 T, .int .i64 M, .int .i64 R, .int .i64 S, .int .i64 V, .slice A8 L.length c8] 47)
    go_upto_region 7 with fail
    generalize hW : World.alloc _ _ = W4 at R3 R4 R6 R7 R8 I4 I8 BW ⊢
    clear hW
    generalize hg8 : w4.heap.size = g8 at R8 I8 z4 ⊢
    clear hg8
    have y8 : g8 < W4.heap.size := Below.ltK R8
    obtain ⟨x0, x1, x2, x3, x4⟩ := desc_cells R3
    obtain ⟨y0, y1, y2, y3, y4, y5, y6, y7⟩ := fr_cells R4
    obtain ⟨p0, p1, p2, p3, p4⟩ := desc_cells R6
    obtain ⟨u0, u1, u2, u3, u4⟩ := desc_cells R7
    obtain ⟨f0, f1, f2, f3, f4, f5, f6, f7⟩ := fr_cells R8
    go_wp2_with fail
    refine (HS.out _).mono ?_
    rintro e w5 ⟨v10, rfl, o10, b5⟩
    obtain ⟨A10, c10, rfl, I10⟩ := o10.ints (by omega)
    clear o10 HI HS
    clear x0 x1 x2 x3 x4 y0 y1 y2 y3 y4 y5 y6 y7 p0 p1 p2 p3 p4 u0 u1 u2 u3 u4 f0 f1 f2 f3 f4 f5 f6 f7
    replace R3 := (b5.block _ (Below.ltK R3)).trans R3
    replace R4 := (b5.block _ (Below.ltK R4)).trans R4
    replace R6 := (b5.block _ (Below.ltK R6)).trans R6
    replace R7 := (b5.block _ (Below.ltK R7)).trans R7
    replace R8 := (b5.block _ (Below.ltK R8)).trans R8
    replace I4 := I4.below' (by omega) b5
    replace I8 := I8.below' (by omega) b5
    replace BW := BW.trans (b5.mono BW.size)
    have z5 := b5.size
    clear b5
    have R10 := heap_alloc_new w5 (.cells #[.int .i64 K, .int .i64 0, .int .i64 T, .int .i64 M, .int .i64 R, .int .i64 S, .int .i64 V, .slice A10 L.length c10] 47)
    replace I10 := I10.alloc (Nat.le_refl _) (.cells #[.int .i64 K, .int .i64 0, .int .i64 T, .int .i64 M, .int .i64 R, .int .i64 S, .int .i64 V, .slice A10 L.length c10] 47)
    replace R3 := (Below.heap_alloc w5 (.cells #[.int .i64 K, .int .i64 0, .int .i64 T, .int .i64 M, .int .i64 R, .int .i64 S, .int .i64 V, .slice A10 L.length c10] 47) _ (Below.ltK R3)).trans R3
    replace R4 := (Below.heap_alloc w5 (.cells #[.int .i64 K, .int .i64 0, .int .i64 T, .int .i64 M, .int .i64 R, .int .i64 S, .int .i64 V, .slice A10 L.length c10] 47) _ (Below.ltK R4)).trans R4
    replace R6 := (Below.heap_alloc w5 (.cells #[.int .i64 K, .int .i64 0, .int .i64 T, .int .i64 M, .int .i64 R, .int .i64 S, .int .i64 V, .slice A10 L.length c10] 47) _ (Below.ltK R6)).trans R6
    replace R7 := (Below.heap_alloc w5 (.cells #[.int .i64 K, .int .i64 0, .int .i64 T, .int .i64 M, .int .i64 R, .int .i64 S, .int .i64 V, .slice A10 L.length c10] 47) _ (Below.ltK R7)).trans R7
    replace R8 := (Below.heap_alloc w5 (.cells #[.int .i64 K, .int .i64 0, .int .i64 T, .int .i64 M, .int .i64 R, .int .i64 S, .int .i64 V, .slice A10 L.length c10] 47) _ (Below.ltK R8)).trans R8
    replace I4 := I4.alloc (by omega) (.cells #[.int .i64 K, .int .i64 0, .int .i64 T, .int .i64 M, .int .i64 R, .int .i64 S, .int .i64 V, .slice A10 L.length c10] 47)
    replace I8 := I8.alloc (by omega) (.cells #[.int .i64 K, .int .i64 0, .int .i64 T, .int .i64 M, .int .i64 R, .int .i64 S, .int .i64 V, .slice A10 L.length c10] 47)
    replace BW := BW.alloc BW.size (.cells #[.int .i64 K, .int .i64 0, .int .i64 T, .int .i64 M, .int .i64 R, .int .i64 S, .int .i64 V, .slice A10 L.length c10] 47)
    go_upto_region 8 with fail
    generalize hW : World.alloc _ _ = W5 at R3 R4 R6 R7 R8 R10 I4 I8 I10 BW ⊢
    clear hW
    generalize hg10 : w5.heap.size = g10 at R10 I10 z5 ⊢
    clear hg10
    have y10 : g10 < W5.heap.size := Below.ltK R10
    obtain ⟨x0, x1, x2, x3, x4⟩ := desc_cells R3
    obtain ⟨y0, y1, y2, y3, y4, y5, y6, y7⟩ := fr_cells R4
    obtain ⟨p0, p1, p2, p3, p4⟩ := desc_cells R6
    obtain ⟨u0, u1, u2, u3, u4⟩ := desc_cells R7
    obtain ⟨f0, f1, f2, f3, f4, f5, f6, f7⟩ := fr_cells R8
    obtain ⟨h0, h1, h2, h3, h4, h5, h6, h7⟩ := fr_cells R10
    go_wp2_with fail
    refine (s_FitsDescriptor nd k sz du ch fk q t m r s v _ _ _ xs _ _ I4 (by omega)).mono ?_
    rw [HOK.out]
    rintro e w6 ⟨rfl, b6⟩
    clear x0 x1 x2 x3 x4 y0 y1 y2 y3 y4 y5 y6 y7 p0 p1 p2 p3 p4 u0 u1 u2 u3 u4 f0 f1 f2 f3 f4 f5 f6 f7 h0 h1 h2 h3 h4 h5 h6 h7
    replace R3 := (b6.block _ (Below.ltK R3)).trans R3
    replace R4 := (b6.block _ (Below.ltK R4)).trans R4
    replace R6 := (b6.block _ (Below.ltK R6)).trans R6
    replace R7 := (b6.block _ (Below.ltK R7)).trans R7
    replace R8 := (b6.block _ (Below.ltK R8)).trans R8
    replace R10 := (b6.block _ (Below.ltK R10)).trans R10
    replace I4 := I4.below' (by omega) b6
    replace I8 := I8.below' (by omega) b6
    replace I10 := I10.below' (by omega) b6
    replace BW := BW.trans (b6.mono BW.size)
    have z6 := b6.size
    clear b6
    obtain ⟨x0, x1, x2, x3, x4⟩ := desc_cells R3
    obtain ⟨y0, y1, y2, y3, y4, y5, y6, y7⟩ := fr_cells R4
    obtain ⟨p0, p1, p2, p3, p4⟩ := desc_cells R6
    obtain ⟨u0, u1, u2, u3, u4⟩ := desc_cells R7
    obtain ⟨f0, f1, f2, f3, f4, f5, f6, f7⟩ := fr_cells R8
    obtain ⟨h0, h1, h2, h3, h4, h5, h6, h7⟩ := fr_cells R10
    go_wp2_with fail
    refine (h_likeFrames K 0 T M R S V _ _ _ _ _ _ L _ _ _ I8 I10 (by omega) (by omega)).mono ?_
    rintro e w7 ⟨rfl, b7⟩
    clear x0 x1 x2 x3 x4 y0 y1 y2 y3 y4 y5 y6 y7 p0 p1 p2 p3 p4 u0 u1 u2 u3 u4 f0 f1 f2 f3 f4 f5 f6 f7 h0 h1 h2 h3 h4 h5 h6 h7
    replace R3 := (b7.block _ (Below.ltK R3)).trans R3
    replace R4 := (b7.block _ (Below.ltK R4)).trans R4
    replace R6 := (b7.block _ (Below.ltK R6)).trans R6
    replace R7 := (b7.block _ (Below.ltK R7)).trans R7
    replace R8 := (b7.block _ (Below.ltK R8)).trans R8
    replace R10 := (b7.block _ (Below.ltK R10)).trans R10
    replace I4 := I4.below' (by omega) b7
    replace I8 := I8.below' (by omega) b7
    replace I10 := I10.below' (by omega) b7
    replace BW := BW.trans (b7.mono BW.size)
    have z7 := b7.size
    clear b7
    obtain ⟨x0, x1, x2, x3, x4⟩ := desc_cells R3
    obtain ⟨y0, y1, y2, y3, y4, y5, y6, y7⟩ := fr_cells R4
    obtain ⟨p0, p1, p2, p3, p4⟩ := desc_cells R6
    obtain ⟨u0, u1, u2, u3, u4⟩ := desc_cells R7
    obtain ⟨f0, f1, f2, f3, f4, f5, f6, f7⟩ := fr_cells R8
    obtain ⟨h0, h1, h2, h3, h4, h5, h6, h7⟩ := fr_cells R10
    cases hC : (C == 0)
    · cases ok
      · go_wp2
        go_ret
        exact ⟨rfl, BW⟩
      · obtain ⟨p1, p2, p3⟩ := fit_parts HOK.out
        clear HOK
        subst p2
        subst p3
        go_wp2_with fail
        refine (i_IsFrame fk q t m r s v _ _ _ xs _ _ I4 (by omega)).mono ?_
        rw [p1]
        rintro e w9 ⟨rfl, b9⟩
        clear x0 x1 x2 x3 x4 y0 y1 y2 y3 y4 y5 y6 y7 p0 p1 p2 p3 p4 u0 u1 u2 u3 u4 f0 f1 f2 f3 f4 f5 f6 f7 h0 h1 h2 h3 h4 h5 h6 h7
        replace R3 := (b9.block _ (Below.ltK R3)).trans R3
        replace R4 := (b9.block _ (Below.ltK R4)).trans R4
        replace R6 := (b9.block _ (Below.ltK R6)).trans R6
        replace R7 := (b9.block _ (Below.ltK R7)).trans R7
        replace R8 := (b9.block _ (Below.ltK R8)).trans R8
        replace R10 := (b9.block _ (Below.ltK R10)).trans R10
        replace I4 := I4.below' (by omega) b9
        replace I8 := I8.below' (by omega) b9
        replace I10 := I10.below' (by omega) b9
        replace BW := BW.trans (b9.mono BW.size)
        have z9 := b9.size
        clear b9
        obtain ⟨x0, x1, x2, x3, x4⟩ := desc_cells R3
        obtain ⟨y0, y1, y2, y3, y4, y5, y6, y7⟩ := fr_cells R4
        obtain ⟨p0, p1, p2, p3, p4⟩ := desc_cells R6
        obtain ⟨u0, u1, u2, u3, u4⟩ := desc_cells R7
        obtain ⟨f0, f1, f2, f3, f4, f5, f6, f7⟩ := fr_cells R8
        obtain ⟨h0, h1, h2, h3, h4, h5, h6, h7⟩ := fr_cells R10
        go_wp2
        go_ret
        exact ⟨by first | rfl | exact congrArg (fun b => Ending.returned (.bool b)) p3 | (simp only [beq_iff_eq] at p2 p3; simp [p2, p3]), BW⟩
    · go_wp2_with fail
      refine (i_FitsDescriptor nd2 k2 sz2 du2 ch2 K 0 T M R S V _ _ _ L _ _ I8 (by omega)).mono ?_
      rw [HF.out (by simpa using hC)]
      rintro e w8 ⟨rfl, b8⟩
      clear x0 x1 x2 x3 x4 y0 y1 y2 y3 y4 y5 y6 y7 p0 p1 p2 p3 p4 u0 u1 u2 u3 u4 f0 f1 f2 f3 f4 f5 f6 f7 h0 h1 h2 h3 h4 h5 h6 h7
      replace R3 := (b8.block _ (Below.ltK R3)).trans R3
      replace R4 := (b8.block _ (Below.ltK R4)).trans R4
      replace R6 := (b8.block _ (Below.ltK R6)).trans R6
      replace R7 := (b8.block _ (Below.ltK R7)).trans R7
      replace R8 := (b8.block _ (Below.ltK R8)).trans R8
      replace R10 := (b8.block _ (Below.ltK R10)).trans R10
      replace I4 := I4.below' (by omega) b8
      replace I8 := I8.below' (by omega) b8
      replace I10 := I10.below' (by omega) b8
      replace BW := BW.trans (b8.mono BW.size)
      have z8 := b8.size
      clear b8
      obtain ⟨x0, x1, x2, x3, x4⟩ := desc_cells R3
      obtain ⟨y0, y1, y2, y3, y4, y5, y6, y7⟩ := fr_cells R4
      obtain ⟨p0, p1, p2, p3, p4⟩ := desc_cells R6
      obtain ⟨u0, u1, u2, u3, u4⟩ := desc_cells R7
      obtain ⟨f0, f1, f2, f3, f4, f5, f6, f7⟩ := fr_cells R8
      obtain ⟨h0, h1, h2, h3, h4, h5, h6, h7⟩ := fr_cells R10
      cases ok
      · go_wp2
        go_ret
        exact ⟨rfl, BW⟩
      · obtain ⟨p1, p2, p3⟩ := fit_parts HOK.out
        clear HOK
        subst p2
        subst p3
        go_wp2_with fail
        refine (i_IsFrame fk q t m r s v _ _ _ xs _ _ I4 (by omega)).mono ?_
        rw [p1]
        rintro e w9 ⟨rfl, b9⟩
        clear x0 x1 x2 x3 x4 y0 y1 y2 y3 y4 y5 y6 y7 p0 p1 p2 p3 p4 u0 u1 u2 u3 u4 f0 f1 f2 f3 f4 f5 f6 f7 h0 h1 h2 h3 h4 h5 h6 h7
        replace R3 := (b9.block _ (Below.ltK R3)).trans R3
        replace R4 := (b9.block _ (Below.ltK R4)).trans R4
        replace R6 := (b9.block _ (Below.ltK R6)).trans R6
        replace R7 := (b9.block _ (Below.ltK R7)).trans R7
        replace R8 := (b9.block _ (Below.ltK R8)).trans R8
        replace R10 := (b9.block _ (Below.ltK R10)).trans R10
        replace I4 := I4.below' (by omega) b9
        replace I8 := I8.below' (by omega) b9
        replace I10 := I10.below' (by omega) b9
        replace BW := BW.trans (b9.mono BW.size)
        have z9 := b9.size
        clear b9
        obtain ⟨x0, x1, x2, x3, x4⟩ := desc_cells R3
        obtain ⟨y0, y1, y2, y3, y4, y5, y6, y7⟩ := fr_cells R4
        obtain ⟨p0, p1, p2, p3, p4⟩ := desc_cells R6
        obtain ⟨u0, u1, u2, u3, u4⟩ := desc_cells R7
        obtain ⟨f0, f1, f2, f3, f4, f5, f6, f7⟩ := fr_cells R8
        obtain ⟨h0, h1, h2, h3, h4, h5, h6, h7⟩ := fr_cells R10
        go_wp2
        go_ret
        exact ⟨by first | rfl | exact congrArg (fun b => Ending.returned (.bool b)) p3 | (simp only [beq_iff_eq] at p2 p3; simp [p2, p3]), BW⟩
end Go.Proofs.Ytecelofoffdjlaa

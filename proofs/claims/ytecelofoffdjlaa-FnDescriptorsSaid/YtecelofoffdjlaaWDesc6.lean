/- The walk of the law on descriptors. -/
import Derived.Test.YtecelofoffdjlaaDrawD3
import Derived.Test.YtecelofoffdjlaaDesc5
import Derived.Deep.RegionHeld3
import Derived.RegionTactic
import Derived.BigRegion
namespace Go.Proofs.Ytecelofoffdjlaa
open Go.RowKit
set_option linter.unusedSimpArgs false
set_option linter.unusedVariables false
theorem Below.from_ {a X b : World} (hX : Below a.heap.size a X) (hb : Below X.heap.size X b) : Below a.heap.size a b := hX.trans (hb.mono hX.size)
theorem h_bigD (A : Option Addr) (n c : Nat) (w : World) :
    Calls Try.prog 40 #[.slice A n c] w fun e w' => e = .returned (.bool (decide ((4096 : Int) < n))) ∧ w = w' := by
  go_enter Try.func40, Try.ntmps40
  go_wp2
  go_ret
  exact ⟨rfl, rfl⟩
theorem desc_law {nd k sz du : Int} {ch : Bool} (h : descOk nd k sz du ch = true) :
    descC nd k sz du ch = 0 ∧ descR nd k sz du ch = descL nd k sz du ch ∧ pauseV nd k sz du ch = du - cellsZ k sz ∧ cellsV k sz = cellsZ k sz ∧ bodyC k sz = 0 ∧ 20 ≤ du - cellsZ k sz ∧ du ≤ 1000 ∧ 61 ≤ cellsZ k sz ∧ dfbC (descL nd k sz du ch) = 0 ∧
      dfbV (descL nd k sz du ch) = .agg #[.int .i64 nd, .int .i64 k, .int .i64 sz, .int .i64 du, .bool ch] := by
  have h' := h
  simp only [descOk, Bool.and_eq_true, decide_eq_true_eq] at h'
  obtain ⟨⟨⟨⟨n0, n1, k0, k1⟩, hs⟩, _⟩, u0, u1⟩ := h'
  have hz := sizeOk_bd hs
  have hcz := cellsZ_bd (k := k) hz.1 hz.2
  have hb : bodyC k sz = 0 := by unfold bodyC; rw [if_neg (by omega), if_pos hs]
  have e1 : (k * 64 + sz) / 64 = k := by omega
  have e2 : (k * 64 + sz) % 64 = sz := by omega
  have e3 : du / 256 * 256 + du % 256 = du := by omega
  have hone : oneZ ch = 0 ∨ oneZ ch = 1 := by cases ch <;> simp [oneZ]
  have hc : (oneZ ch == 1) = ch := by cases ch <;> rfl
  have hN : dN (descL nd k sz du ch) = nd := rfl
  have hK : dK (descL nd k sz du ch) = k := e1
  have hS : dS (descL nd k sz du ch) = sz := e2
  have hD : dD (descL nd k sz du ch) = du := e3
  have hC : dC (descL nd k sz du ch) = ch := hc
  have hby : bytesOk (descL nd k sz du ch) = true := by
    simp only [bytesOk, allIn, descL, Bool.and_eq_true, decide_eq_true_eq, List.all_cons, List.all_nil, Bool.and_true]
    refine ⟨by simp, ⟨by omega, by omega⟩, ⟨by omega, by omega⟩, ⟨by omega, by omega⟩, ⟨by omega, by omega⟩, ⟨by omega, by omega⟩⟩
  have hok : dfbOk (descL nd k sz du ch) = true := by
    unfold dfbOk
    rw [hN, hK, hS, hD, hC, hby, h]
    simp only [Bool.true_and, Bool.and_true, Bool.and_eq_true, decide_eq_true_eq]
    refine ⟨rfl, ?_⟩
    show oneZ ch ≤ 1
    omega
  refine ⟨by simp [descC, h], by simp [descR, h], by simp [pauseV, h], by unfold cellsV; rw [if_pos hb], hb, by omega, u1, hcz.1, by simp [dfbC, hok], ?_⟩
  unfold dfbV
  rw [if_pos hok, hN, hK, hS, hD, hC]
set_option maxHeartbeats 4000000 in
theorem w_FnDescriptors (a0 : Option Addr) (len0 cap0 : Nat) (z0 : List Int) (w : World) (w0 : ArgBytes w a0 len0 cap0 z0) :
    Calls Try.prog 11 #[.slice a0 len0 cap0] w fun e w' => e = .returned (.bool true) ∧ Below w.heap.size w w' := by
  by_cases hbig : 4096 < len0
  · clear w0
    have hb : decide ((4096 : Int) < len0) = true := by simp; omega
    go_enter Try.func11, Try.ntmps11
    go_wp2_with (go_at_call 40; refine (h_bigD _ _ _ _).mono ?_; rintro e w' ⟨rfl, rfl⟩)
    go_ret
    exact ⟨rfl, Below.refl _ _⟩
  · have hI := w0.2.2 (by omega)
    have hb : decide ((4096 : Int) < len0) = false := by simp; omega
    clear w0
    go_enter Try.func11, Try.ntmps11
    go_wp2_with (go_at_call 40; refine (h_bigD _ _ _ _).mono ?_; rintro e w' ⟨rfl, rfl⟩)
    refine (s_DrawDescriptorToBytes _ _ _ _ _ _ hI (Nat.le_refl _)).mono ?_
    rintro e w1 ⟨nd, k, sz, du, ch, rfl, b1⟩
    have z1 := b1.size
    have B1 := b1.alloc z1 (.cells #[.int .i64 nd, .int .i64 k, .int .i64 sz, .int .i64 du, .bool ch] 26)
    have R1 := heap_alloc_new w1 (.cells #[.int .i64 nd, .int .i64 k, .int .i64 sz, .int .i64 du, .bool ch] 26)
    have y1 : w1.heap.size < (w1.alloc (.cells #[.int .i64 nd, .int .i64 k, .int .i64 sz, .int .i64 du, .bool ch] 26)).heap.size := (by simp)
    clear b1
    go_upto_region 4 with fail
    generalize w1.alloc _ = W1 at B1 R1 y1 ⊢
    generalize w1.heap.size = gb at R1 y1 z1 ⊢
    obtain ⟨d0, d1, d2, d3, d4⟩ := desc_cells R1
    have hLn : (descR nd k sz du ch).length ≤ 16777216 := Nat.le_trans (descR_len nd k sz du ch) (by omega)
    have heq := eqL_refl (descR nd k sz du ch)
    go_wp2_with fail
    refine (i_DescriptorToBytes nd k sz du ch _).mono ?_
    rintro e w2 ⟨v2, rfl, o2, b2⟩
    obtain ⟨A2, c2, rfl, I2⟩ := o2.ints hLn
    have R2 := (b2.block gb y1).trans R1
    have B2 := B1.trans (b2.mono (by omega))
    have z2 := b2.size
    clear o2 b2 R1 B1 d0 d1 d2 d3 d4
    obtain ⟨d0, d1, d2, d3, d4⟩ := desc_cells R2
    go_wp2_with fail
    refine (s_DescriptorToBytes nd k sz du ch _).mono ?_
    rintro e w3 ⟨v3, rfl, o3, b3⟩
    obtain ⟨A3, c3, rfl, I3⟩ := o3.ints hLn
    have R3 := (b3.block gb (by omega)).trans R2
    have B3 := B2.trans (b3.mono (by omega))
    have I23 := I2.below b3
    have z3 := b3.size
    clear o3 b3 R2 B2 I2 d0 d1 d2 d3 d4
    obtain ⟨d0, d1, d2, d3, d4⟩ := desc_cells R3
    go_wp2_with fail
    refine (i_PauseOf nd k sz du ch _).mono ?_
    rintro e w4 ⟨rfl, b4⟩
    have R4 := (b4.block gb (by omega)).trans R3
    have B4 := B3.trans (b4.mono (by omega))
    have I24 := I23.below' (by omega) b4
    have I34 := I3.below b4
    have z4 := b4.size
    clear b4 R3 B3 I3 I23 d0 d1 d2 d3 d4
    obtain ⟨d0, d1, d2, d3, d4⟩ := desc_cells R4
    go_wp2_with fail
    refine (s_PauseOf nd k sz du ch _).mono ?_
    rintro e w5 ⟨rfl, b5⟩
    have R5 := (b5.block gb (by omega)).trans R4
    have B5 := B4.trans (b5.mono (by omega))
    have I25 := I24.below' (by omega) b5
    have I35 := I34.below' (by omega) b5
    have z5 := b5.size
    clear b5 R4 B4 I34 I24 d0 d1 d2 d3 d4
    go_wp2_with fail
    refine (s_DrawDescriptorFromBytes _ _ _ _ _ _ (hI.below B5) (by omega)).mono ?_
    rintro e w6 ⟨A6, n6, c6, xs, rfl, i6, b6⟩
    have R6 := (b6.block gb (by omega)).trans R5
    have B6 := B5.trans (b6.mono (by omega))
    have I26 := I25.below' (by omega) b6
    have I36 := I35.below' (by omega) b6
    have z6 := b6.size
    clear b6 R5 B5 I25 I35 hI
    obtain ⟨ea, eb, ec, ed, ee, hv⟩ := dfb_form xs
    generalize hCx : dfbC xs = Cx
    have HV := Lib.hid hv; have HC := Lib.hid hCx
    clear hv hCx
    go_wp2_with fail
    refine (i_DescriptorFromBytes _ _ _ xs _ _ i6 (Nat.le_refl _)).mono ?_
    rw [HV.out, HC.out]
    rintro e w7 ⟨rfl, b7⟩
    have R7 := (Below.heap_alloc w7 (.cells #[.int .i64 ea, .int .i64 eb, .int .i64 ec, .int .i64 ed, .bool ee] 26) gb (by have := b7.size; omega)).trans ((b7.block gb (by omega)).trans R6)
    have X7 := heap_alloc_new w7 (.cells #[.int .i64 ea, .int .i64 eb, .int .i64 ec, .int .i64 ed, .bool ee] 26)
    have B7 := (B6.trans (b7.mono (by omega))).alloc (by have := b7.size; omega) (.cells #[.int .i64 ea, .int .i64 eb, .int .i64 ec, .int .i64 ed, .bool ee] 26)
    have i7 := (i6.below b7).alloc (b7.size) (.cells #[.int .i64 ea, .int .i64 eb, .int .i64 ec, .int .i64 ed, .bool ee] 26)
    have I27 := (I26.below' (by omega) b7).alloc (by have := b7.size; omega) (.cells #[.int .i64 ea, .int .i64 eb, .int .i64 ec, .int .i64 ed, .bool ee] 26)
    have I37 := (I36.below' (by omega) b7).alloc (by have := b7.size; omega) (.cells #[.int .i64 ea, .int .i64 eb, .int .i64 ec, .int .i64 ed, .bool ee] 26)
    have z7 := b7.size
    have y7 : w7.heap.size < (w7.alloc (.cells #[.int .i64 ea, .int .i64 eb, .int .i64 ec, .int .i64 ed, .bool ee] 26)).heap.size := (by simp)
    clear b7 R6 B6 I26 I36 i6
    go_upto_region 10 with fail
    generalize w7.alloc _ = W7 at R7 X7 B7 i7 I27 I37 y7 ⊢
    generalize w7.heap.size = gx at X7 z7 y7 ⊢
    go_wp2_with fail
    refine (s_DescriptorFromBytes _ _ _ xs _ _ i7 (by omega)).mono ?_
    rw [HV.out, HC.out]
    rintro e w8 ⟨rfl, b8⟩
    have R8 := (Below.heap_alloc w8 (.cells #[.int .i64 ea, .int .i64 eb, .int .i64 ec, .int .i64 ed, .bool ee] 26) gb (by have := b8.size; omega)).trans ((b8.block gb (by omega)).trans R7)
    have X8 := (Below.heap_alloc w8 (.cells #[.int .i64 ea, .int .i64 eb, .int .i64 ec, .int .i64 ed, .bool ee] 26) gx (by have := b8.size; omega)).trans ((b8.block gx (by omega)).trans X7)
    have Y8 := heap_alloc_new w8 (.cells #[.int .i64 ea, .int .i64 eb, .int .i64 ec, .int .i64 ed, .bool ee] 26)
    have B8 := (B7.trans (b8.mono (by omega))).alloc (by have := b8.size; omega) (.cells #[.int .i64 ea, .int .i64 eb, .int .i64 ec, .int .i64 ed, .bool ee] 26)
    have I8 := (I27.below' (by omega) b8).alloc (by have := b8.size; omega) (.cells #[.int .i64 ea, .int .i64 eb, .int .i64 ec, .int .i64 ed, .bool ee] 26)
    have I38 := (I37.below' (by omega) b8).alloc (by have := b8.size; omega) (.cells #[.int .i64 ea, .int .i64 eb, .int .i64 ec, .int .i64 ed, .bool ee] 26)
    have z8 := b8.size
    have y8 : w8.heap.size < (w8.alloc (.cells #[.int .i64 ea, .int .i64 eb, .int .i64 ec, .int .i64 ed, .bool ee] 26)).heap.size := (by simp)
    clear b8 R7 X7 B7 I27 I37 i7 HV HC
    go_upto_region 11 with fail
    generalize w8.alloc _ = w9 at R8 X8 Y8 B8 I8 I38 y8 ⊢
    generalize w8.heap.size = gy at Y8 z8 y8 ⊢
    have R9 := R8; have X9 := X8; have Y9 := Y8; have B9 := B8; have I9 := I8
    clear R8 X8 Y8 B8 I8
    obtain ⟨d0, d1, d2, d3, d4⟩ := desc_cells R9; obtain ⟨x0, x1, x2, x3, x4⟩ := desc_cells X9; obtain ⟨y0, y1, y2, y3, y4⟩ := desc_cells Y9
    go_region_held3 (fun w' => w'.cell? ⟨gb, 0, none⟩ = some (.int .i64 nd) ∧ w'.cell? ⟨gb, 1, none⟩ = some (.int .i64 k) ∧ w'.cell? ⟨gb, 2, none⟩ = some (.int .i64 sz) ∧ w'.cell? ⟨gb, 3, none⟩ = some (.int .i64 du) ∧ w'.cell? ⟨gb, 4, none⟩ = some (.bool ch) ∧ w'.cell? ⟨gx, 0, none⟩ = some (.int .i64 ea) ∧ w'.cell? ⟨gx, 1, none⟩ = some (.int .i64 eb) ∧ w'.cell? ⟨gx, 2, none⟩ = some (.int .i64 ec) ∧ w'.cell? ⟨gx, 3, none⟩ = some (.int .i64 ed) ∧ w'.cell? ⟨gx, 4, none⟩ = some (.bool ee) ∧ w'.cell? ⟨gy, 0, none⟩ = some (.int .i64 ea) ∧ w'.cell? ⟨gy, 1, none⟩ = some (.int .i64 eb) ∧ w'.cell? ⟨gy, 2, none⟩ = some (.int .i64 ec) ∧ w'.cell? ⟨gy, 3, none⟩ = some (.int .i64 ed) ∧ w'.cell? ⟨gy, 4, none⟩ = some (.bool ee)) (go_keep) (first | (go_at_call 55; refine (h_likeInts _ _ _ _ _ _ _ _ _ _ _ (by first | exact I9 | exact I9.drew | exact I9.drewN _) (by first | exact I38 | exact I38.drew | exact I38.drewN _)).mono ?_; rw [heq]; rintro e wl ⟨rfl, ml, rfl⟩) | (go_at_call 56; refine (i_IsDescriptor nd k sz du ch _).mono ?_; rintro e w10 ⟨rfl, hb10⟩; have hc10 : Below w9.heap.size w9 w10 := Below.from_ (by (first | exact Below.refl _ _ | exact below_drewN (Below.refl _ _) _ | exact (Below.refl _ _).drew | exact below_drewN (Below.refl _ _).drew _ | exact (below_drewN (Below.refl _ _) _).drew | exact below_drewN (below_drewN (Below.refl _ _) _) _)) hb10; have R10 := (hc10.block gb (by omega)).trans R9; have X10 := (hc10.block gx (by omega)).trans X9; have Y10 := (hc10.block gy (by omega)).trans Y9; have B10 := B9.trans (hc10.mono (by omega)); have I10 := I9.below' (by omega) hc10; have z10 := hc10.size; clear d0 d1 d2 d3 d4 x0 x1 x2 x3 x4 y0 y1 y2 y3 y4; obtain ⟨d0, d1, d2, d3, d4⟩ := desc_cells R10; obtain ⟨x0, x1, x2, x3, x4⟩ := desc_cells X10; obtain ⟨y0, y1, y2, y3, y4⟩ := desc_cells Y10; clear hb10 hc10) | (go_at_call 57; refine (s_IsDescriptor nd k sz du ch _).mono ?_; rintro e w11 ⟨rfl, hb11⟩; have hc11 : Below w10.heap.size w10 w11 := Below.from_ (by (first | exact Below.refl _ _ | exact below_drewN (Below.refl _ _) _ | exact (Below.refl _ _).drew | exact below_drewN (Below.refl _ _).drew _ | exact (below_drewN (Below.refl _ _) _).drew | exact below_drewN (below_drewN (Below.refl _ _) _) _)) hb11; have R11 := (hc11.block gb (by omega)).trans R10; have X11 := (hc11.block gx (by omega)).trans X10; have Y11 := (hc11.block gy (by omega)).trans Y10; have B11 := B10.trans (hc11.mono (by omega)); have I11 := I10.below' (by omega) hc11; have z11 := hc11.size; clear d0 d1 d2 d3 d4 x0 x1 x2 x3 x4 y0 y1 y2 y3 y4; obtain ⟨d0, d1, d2, d3, d4⟩ := desc_cells R11; obtain ⟨x0, x1, x2, x3, x4⟩ := desc_cells X11; obtain ⟨y0, y1, y2, y3, y4⟩ := desc_cells Y11; clear hb11 hc11))
    cases hd : descOk nd k sz du ch
    · have q0 : (descC nd k sz du ch != 0) = true := by simp [descC, hd]
      go_wp2
      go_ret
      exact ⟨rfl, B11⟩
    · obtain ⟨e1, e2, e3, e4, e5, e6, e7, e8, e9, e10⟩ := desc_law hd
      have q0 : (descC nd k sz du ch != 0) = false := by rw [e1]; rfl
      have eL : (descR nd k sz du ch).length = 5 := by rw [e2]; rfl
      rw [eL, e2] at I11
      rw [eL, e1, e3]
      clear hd e1 e2 e3 eL heq hLn
      clear d0 d1 d2 d3 d4 x0 x1 x2 x3 x4 y0 y1 y2 y3 y4
      obtain ⟨d0, d1, d2, d3, d4⟩ := desc_cells R11
      have E4 := Lib.hid e4; have E5 := Lib.hid e5; have E9 := Lib.hid e9; have E10 := Lib.hid e10
      clear e4 e5 e9 e10
      go_wp2_with fail
      refine (i_DescriptorFromBytes _ _ _ (descL nd k sz du ch) _ _ I11 (by omega)).mono ?_
      rw [E10.out, E9.out]
      rintro e w12 ⟨rfl, b12⟩
      have R12 := (Below.heap_alloc w12 (.cells #[.int .i64 nd, .int .i64 k, .int .i64 sz, .int .i64 du, .bool ch] 26) gb (by have := b12.size; omega)).trans ((b12.block gb (by omega)).trans R11)
      have T12 := heap_alloc_new w12 (.cells #[.int .i64 nd, .int .i64 k, .int .i64 sz, .int .i64 du, .bool ch] 26)
      have B12 := (B11.trans (b12.mono (by omega))).alloc (by have := b12.size; omega) (.cells #[.int .i64 nd, .int .i64 k, .int .i64 sz, .int .i64 du, .bool ch] 26)
      clear R11 X11 Y11 I11 B11 b12 d0 d1 d2 d3 d4
      go_upto_region 16 with fail
      generalize w12.alloc _ = W12 at R12 T12 B12 ⊢
      generalize w12.heap.size = gt at T12 ⊢
      obtain ⟨d0, d1, d2, d3, d4⟩ := desc_cells R12
      obtain ⟨x0, x1, x2, x3, x4⟩ := desc_cells T12
      go_wp2_with fail
      refine (i_CellsNeeded k sz _).mono ?_
      rw [E4.out, E5.out]
      rintro e w13 ⟨rfl, rfl⟩
      generalize cellsZ k sz = Z at e6 e8 ⊢
      clear E4 E5 E9 E10 R12 T12
      go_wp2
      go_ret
      exact ⟨by first | rfl | (simp; omega), B12⟩
end Go.Proofs.Ytecelofoffdjlaa

/- The reference's side of DataOfImage, and the contracts. -/
import Derived.Test.YtjheanonklgbcaaDat
namespace Go.Proofs.Ytjheanonklgbcaa
open Go.RowKit
set_option linter.unusedSimpArgs false
set_option linter.unusedVariables false
set_option maxHeartbeats 8000000 in
theorem s_l09Data (A : Option Addr) (n c : Nat) (xs : List Int) (B : Nat) (w : World) (h : IntsAt w B A n c xs) (hB : B ≤ w.heap.size) (hb : ∀ x ∈ xs, 0 ≤ x ∧ x ≤ 255) (hn : n ≤ 1024) :
    Calls Try.prog 72 #[.slice A n c] w fun e w' => ∃ u, e = .returned (.tuple #[u, .int .i64 (dtC xs)]) ∧ IOwn w' w.heap.size u (dtL xs) ∧ Below w.heap.size w w' := by
  have hxl := h.len
  obtain ⟨M, hM⟩ : ∃ M, M = cutN 33 n := ⟨_, rfl⟩
  have hMx : cutN 33 xs.length = M := by rw [hM, hxl]
  have hM1 : M ≤ 100 := by rw [hM]; unfold cutN; split <;> omega
  have C1 := s_l09Damaged A n c xs B w h hB hb hn
  rw [← hM] at C1
  have hdl := dmgL_len xs M
  by_cases hd : dmgL xs M = []
  · have hC : dtC xs = (if (datL xs M).length ≤ 868 ∧ imgL (datL xs M) (cutN 28 (datL xs M).length) = xs then 0 else 6) := by unfold dtC; rw [hMx, if_pos hd]
    have hL : dtL xs = (if dtC xs = 0 then datL xs M else []) := by unfold dtL; rw [hMx]
    have HG := Lib.hid (dmg_none hd)
    have HML := Lib.hid (datL_mem hb M)
    have HDL := Lib.hid (datL_len xs M)
    have hn0 : 0 < n := by
      rcases Nat.eq_zero_or_pos n with e | e
      · exfalso
        have h1 : 1 ≤ M := by rw [hM]; unfold cutN; split <;> omega
        have := good_len (HG.out 0 (by omega))
        rw [cutL_len, hxl, e] at this
        omega
      · exact e
    have hMj : ∀ j : Nat, j < M ↔ 33 * j < n := by
      intro j
      rw [hM]
      unfold cutN
      rw [if_neg (by omega)]
      omega
    have HMJ := Lib.hid hMj
    rw [hC] at hL
    rw [hC]
    obtain ⟨LL, hLL⟩ : ∃ LL, LL = dtL xs := ⟨_, rfl⟩
    rw [← hLL]
    rw [← hLL] at hL
    obtain ⟨CC, hCC⟩ : ∃ CC : Int, CC = (if (datL xs M).length ≤ 868 ∧ imgL (datL xs M) (cutN 28 (datL xs M).length) = xs then 0 else 6) := ⟨_, rfl⟩
    rw [← hCC] at hL
    rw [← hCC]
    have HCC := Lib.hid hCC
    have HLL := Lib.hid hL
    clear hLL hCC
    rw [hd] at C1
    replace C1 := Lib.hid C1
    have HI := Lib.hid h
    have hn3 : (n : Int) ≤ 1024 := by omega
    clear hC hL hd hMx hM h hb hdl hxl hMj
    go_enter Try.func72, Try.ntmps72
    go_wp2_with (go_at_call 70; refine C1.out.mono ?_; rintro e w1 ⟨u1, rfl, o1, b1⟩; have z1 := b1.size; obtain ⟨A1, c1, rfl, -⟩ := o1.ints (by simp))
    have o2 : IOwn (w1.alloc (.cells #[] 2)) w.heap.size (.slice (some ⟨w1.heap.size, 0, none⟩) 0 0) [] := lit_own w1 [] w.heap.size z1 (by simp)
    have B2 := b1.alloc z1 (.cells #[] 2)
    have hM2 : (M : Int) ≤ 100 := by omega
    go_loopw [4, 5, 6] (fun o i _ wr => ∃ j : Nat, j ≤ M ∧ i = .int .i64 j ∧ IT w o (datL xs j) wr) (fun _ i _ _ => M - (intOf i).toNat)
    case atStart => exact ⟨0, by omega, rfl, o2, B2⟩
    case round =>
      clear o2 B2 C1 b1
      obtain ⟨j, hj, rfl, S⟩ := hrel
      have zw := S.bel.size
      by_cases hlt : j < M
      · have h33 := (HMJ.out j).1 hlt
        have hj1 : (j : Int) ≤ 100 := by omega
        have hj2 : (j : Int) * 33 < (n : Int) := by omega
        have C2 := Lib.hid (s_l09Slice A n c xs j B wr (HI.out.below' hB S.bel) (by omega) hn)
        have hl5 := good_len (HG.out j hlt)
        have hl33 := cutL_len 33 xs j
        have HD := Lib.hid (datL_len xs j)
        have HDK := Lib.hid (datK_len xs j)
        have HS := Lib.hid (show datL xs (j + 1) = datL xs j ++ datK xs j from rfl)
        have hY : ((cutL 33 xs j).drop 2).take ((cutL 33 xs j).length - 5) = datK xs j := rfl
        have HY := Lib.hid hY
        clear hY
        generalize datK xs j = Y at *
        go_wp2_with (first
          | (go_at_call 62; refine C2.out.mono ?_; rintro e w' ⟨A2, l2, c2, rfl, I2, rfl⟩; have hl2 := I2.len; have hle2 := I2.le; have hl5' : (5 : Int) ≤ (l2 : Int) := (by omega); have hl33' : (l2 : Int) ≤ 33 := (by omega); have hlc : (l2 : Int) ≤ (c2 : Int) := (by omega); have I3 := cut_mid I2 (by omega); have ht3 : ((l2 : Int) - 3).toNat = l2 - 3 := (by omega); rw [HY.out] at I3; clear hl2 I2)
          | (at_builtin; refine wpList_app _ rfl _ _ 22 rfl w.heap.size Try.underlying22 int_info _ (datL xs j) rfl S.own _ _ _ _ Y rfl I3 (by have := HD.out; omega) zw ?_; intro v2 w2' O2 g2 hb2; have S2 := S.app O2 g2))
        clear g2 hb2 O2 I3
        go_wp2
        go_roundw
        case rel => exact ⟨j + 1, by omega, by go_num, by rw [HS.out]; exact S2⟩
        case measure => simp [intOf]; omega
      · have hjM : j = M := by omega
        have S' : IT w u4 (datL xs M) wr := by have e := S; rw [hjM] at e; exact e
        have IX := HI.out.below' hB S.bel
        have hj1 : (j : Int) ≤ 100 := by omega
        have hj2 : (n : Int) ≤ (j : Int) * 33 := by have := (HMJ.out j).2; omega
        clear hjM S
        obtain ⟨Ad, cd, rfl, Id⟩ := S'.own.ints (by have := HDL.out; omega)
        have BW := S'.bel
        have zw := BW.size
        have OD := Lib.hid S'.own
        clear S'
        have HDL' : (datL xs M).length ≤ 2800 := by have := HDL.out; omega
        generalize datL xs M = D at *
        by_cases h8 : D.length ≤ 868
        · have h8' : (D.length : Int) ≤ 868 := by omega
          have HIM := Lib.hid (s_l09Image Ad D.length cd D _ wr Id (Nat.le_refl _) HML.out h8)
          have hil : (imgL D (cutN 28 D.length)).length ≤ 16777216 := by have := imgL_len D (cutN 28 D.length); have := cut28_le _ h8; omega
          generalize imgL D (cutN 28 D.length) = G at *
          clear HML HDL'
          by_cases hG : G = xs
          · have hc : CC = 0 := by rw [HCC.out, if_pos ⟨h8, hG⟩]
            have hl : LL = D := by rw [HLL.out, if_pos hc]
            have hE : eqL G xs = true := by rw [hG]; exact eqL_refl _
            subst hc hl
            clear HCC HLL hG
            go_wp2_with (first
              | (go_at_call 67; refine (s_l09Fits_yes _ _ (by omega) h8').mono ?_; rintro e w' ⟨rfl, rfl⟩)
              | (go_at_call 68; refine HIM.out.mono ?_; rintro e w5 ⟨u5, rfl, o5, b5⟩; obtain ⟨A5, c5, rfl, I5⟩ := o5.ints hil)
              | (go_at_call 99; refine (s_l01Same _ _ _ _ _ _ G xs _ _ _ I5 (IX.below' (by omega) b5)).mono ?_; rintro e w6 ⟨rfl, m6, rfl⟩; rw [hE]))
            go_ret2
            exact ⟨_, rfl, (OD.out.below_ b5).drewN m6, below_drewN (BW.trans (b5.mono zw)) m6⟩
          · have hc : CC = 6 := by rw [HCC.out, if_neg (fun e => hG e.2)]
            have hl : LL = [] := by rw [HLL.out, hc]; rfl
            have hE : eqL G xs = false := by simpa [eqL] using hG
            subst hc hl
            clear HCC HLL hG
            go_wp2_with (first
              | (go_at_call 67; refine (s_l09Fits_yes _ _ (by omega) h8').mono ?_; rintro e w' ⟨rfl, rfl⟩)
              | (go_at_call 68; refine HIM.out.mono ?_; rintro e w5 ⟨u5, rfl, o5, b5⟩; obtain ⟨A5, c5, rfl, I5⟩ := o5.ints hil)
              | (go_at_call 99; refine (s_l01Same _ _ _ _ _ _ G xs _ _ _ I5 (IX.below' (by omega) b5)).mono ?_; rintro e w6 ⟨rfl, m6, rfl⟩; rw [hE]))
            go_ret2
            exact ⟨_, rfl, IOwn.nil _ _, below_drewN (BW.trans (b5.mono zw)) m6⟩
        · have h8' : (868 : Int) < (D.length : Int) := by omega
          have hc : CC = 6 := by rw [HCC.out, if_neg (fun e => h8 e.1)]
          have hl : LL = [] := by rw [HLL.out, hc]; rfl
          subst hc hl
          clear HCC HLL h8
          go_wp2_with (go_at_call 67; refine (s_l09Fits_no _ _ h8').mono ?_; rintro e w' ⟨rfl, rfl⟩)
          go_ret2
          exact ⟨_, rfl, IOwn.nil _ _, BW⟩
  · have hC : dtC xs = 7 := by unfold dtC; rw [hMx, if_neg hd]
    have hL : dtL xs = [] := by unfold dtL; rw [hC]; rfl
    have hpos : 0 < (dmgL xs M).length := List.length_pos_iff.2 hd
    rw [hC, hL]
    replace C1 := Lib.hid C1
    generalize dmgL xs M = DD at *
    clear hC hL hd hMx hM h hb
    go_enter Try.func72, Try.ntmps72
    go_wp2_with (first
      | (go_at_call 70; refine C1.out.mono ?_; rintro e w1 ⟨u1, rfl, o1, b1⟩; obtain ⟨A1, c1, rfl, -⟩ := o1.ints (by omega)))
    go_ret2
    exact ⟨_, rfl, IOwn.nil _ _, b1⟩
theorem i_DataOfImage (A : Option Addr) (n c : Nat) (xs : List Int) (B : Nat) (w : World) (h : IntsAt w B A n c xs) (hB : B ≤ w.heap.size) :
    Calls Try.prog 25 #[.slice A n c] w fun e w' => ∃ u, e = .returned (.tuple #[u, .int .i64 (doC xs)]) ∧ IOwn w' w.heap.size u (doL xs) ∧ Below w.heap.size w w' := by
  have C1 := i_IsBytes A n c xs B w h
  unfold doC doL
  cases hb : bytesOk xs
  · rw [hb] at C1
    clear h
    go_enter Try.func25, Try.ntmps25
    go_wp2_with (first | (go_at_call 63; refine C1.mono ?_; rintro e w1 ⟨rfl, rfl⟩))
    go_ret2
    exact ⟨_, rfl, IOwn.nil _ _, Below.refl _ _⟩
  · rw [hb] at C1
    have hl := bytesOk_len hb
    have hn := h.len
    have C2 := Lib.hid (i_dataOf A n c xs B w h hB (byt_all hb) (by omega))
    have hlen := doL_len xs
    unfold doL at hlen
    rw [hb] at hlen
    simp only [if_true] at hlen ⊢
    generalize dtC xs = CC at *
    generalize dtL xs = LL at *
    clear h hn hb
    go_enter Try.func25, Try.ntmps25
    go_wp2_with (first | (go_at_call 63; refine C1.mono ?_; rintro e w1 ⟨rfl, rfl⟩) | (go_at_call 73; refine C2.out.mono ?_; rintro e w2 ⟨u, rfl, o, b⟩; obtain ⟨A2, c2, rfl, -, -, -⟩ := o.form))
    go_ret2
    exact ⟨_, rfl, o, b⟩
theorem s_DataOfImage (A : Option Addr) (n c : Nat) (xs : List Int) (B : Nat) (w : World) (h : IntsAt w B A n c xs) (hB : B ≤ w.heap.size) :
    Calls Try.prog 24 #[.slice A n c] w fun e w' => ∃ u, e = .returned (.tuple #[u, .int .i64 (doC xs)]) ∧ IOwn w' w.heap.size u (doL xs) ∧ Below w.heap.size w w' := by
  have C1 := s_IsBytes A n c xs B w h
  unfold doC doL
  cases hb : bytesOk xs
  · rw [hb] at C1
    clear h
    go_enter Try.func24, Try.ntmps24
    go_wp2_with (first | (go_at_call 59; refine C1.mono ?_; rintro e w1 ⟨rfl, rfl⟩))
    go_ret2
    exact ⟨_, rfl, IOwn.nil _ _, Below.refl _ _⟩
  · rw [hb] at C1
    have hl := bytesOk_len hb
    have hn := h.len
    have C2 := Lib.hid (s_l09Data A n c xs B w h hB (byt_all hb) (by omega))
    have hlen := doL_len xs
    unfold doL at hlen
    rw [hb] at hlen
    simp only [if_true] at hlen ⊢
    generalize dtC xs = CC at *
    generalize dtL xs = LL at *
    clear h hn hb
    go_enter Try.func24, Try.ntmps24
    go_wp2_with (first | (go_at_call 59; refine C1.mono ?_; rintro e w1 ⟨rfl, rfl⟩) | (go_at_call 72; refine C2.out.mono ?_; rintro e w2 ⟨u, rfl, o, b⟩; obtain ⟨A2, c2, rfl, -, -, -⟩ := o.form))
    go_ret2
    exact ⟨_, rfl, o, b⟩
end Go.Proofs.Ytjheanonklgbcaa

/- The contract of the reference's DamagedBlocks, and both. -/
import Derived.Test.YtjheanonklgbcaaDmg
import Derived.Deep.RegionHeld3
import Derived.BigRegion
import Derived.BigQuiet
namespace Go.Proofs.Ytjheanonklgbcaa
open Go.RowKit
set_option linter.unusedSimpArgs false
set_option linter.unusedVariables false
set_option maxHeartbeats 8000000 in
theorem s_l09Damaged (A : Option Addr) (n c : Nat) (xs : List Int) (B : Nat) (w : World) (h : IntsAt w B A n c xs) (hB : B ≤ w.heap.size) (hb : ∀ x ∈ xs, 0 ≤ x ∧ x ≤ 255) (hn : n ≤ 1024) :
    Calls Try.prog 70 #[.slice A n c] w fun e w' => ∃ u, e = .returned u ∧ IOwn w' w.heap.size u (dmgL xs (cutN 33 n)) ∧ Below w.heap.size w w' := by
  have o0 := lit_own w [] w.heap.size (Nat.le_refl _) (by simp)
  have B0 := (Below.refl w.heap.size w).alloc (Nat.le_refl _) (.cells #[] 2)
  have HB := Lib.hid hb
  have hI := Lib.hid h
  obtain ⟨M, hM⟩ : ∃ M, M = cutN 33 n := ⟨_, rfl⟩
  rw [← hM]
  have hM1 : M ≤ 100 := by rw [hM]; unfold cutN; split <;> omega
  have hMj : ∀ j : Nat, j < M → 33 * j ≤ n ∧ (j = 0 ∨ 33 * j < n) := by
    intro j hj
    rw [hM] at hj
    unfold cutN at hj
    split at hj <;> omega
  have hMe : n ≤ 33 * M ∧ 1 ≤ M := by
    rw [hM]
    unfold cutN
    split <;> omega
  clear hM hb h
  have HMj := Lib.hid hMj
  clear hMj
  obtain ⟨hMe1, hMe2⟩ := hMe
  go_enter Try.func70, Try.ntmps70
  go_wp2
  go_loopw [3, 4, 5, 6] (fun o i _ _ wr => ∃ j : Nat, j ≤ M ∧ i = .int .i64 j ∧ IOwn wr w.heap.size o (dmgL xs j) ∧ Below w.heap.size w wr) (fun _ i _ _ _ => M - (intOf i).toNat)
  case atStart => exact ⟨0, by omega, rfl, o0, B0⟩
  case round =>
    clear o0 B0
    obtain ⟨j, hj, rfl, O, BW⟩ := hrel
    have zw := BW.size
    by_cases hlt : j < M
    · obtain ⟨hj33, hjj⟩ := HMj.out j hlt
      have hj1 : (j : Int) ≤ 100 := by omega
      have hn3 : (n : Int) ≤ 1024 := by omega
      have C1 := Lib.hid (s_l09Slice A n c xs j B wr (hI.out.below' hB BW) hj33 hn)
      have HD := Lib.hid (dmgL_len xs j)
      have hl33 := cutL_len 33 xs j
      rcases hjj with hj0 | hj0
      · have hj0' : ((j : Int) == 0) = true := by simp; omega
        clear hj0
        go_wp2_with (go_at_call 62; refine C1.out.mono ?_; rintro e w' ⟨A2, l2, c2, rfl, I2, rfl⟩; have hl2 := I2.len; have hle2 := I2.le; have hl33' : (l2 : Int) ≤ 33 := (by omega))
        have hcm2 : c2 ≤ 9223372036854775807 := Nat.le_trans I2.cap (by unfold maxLen; omega)
        clear C1
        by_cases h5 : l2 < 5
        · have HS := Lib.hid (dmg_bad (xs := xs) (j := j) (by simp only [badB, Bool.or_eq_true, decide_eq_true_eq]; exact .inl (by omega)))
          have h5' : (l2 : Int) < 5 := by omega
          have hd5 : decide ((l2 : Int) - 3 < 2) = true := by simp; omega
          clear hl33 hl2 h5
          go_upto_region 7 with fail
          go_quiet (fail)
          replace O := O.drewN nq
          replace BW := below_drewN BW nq
          have zw' : w.heap.size ≤ (wr.drewN nq).heap.size := zw
          clear I2 zw
          have zw := zw'
          clear zw'
          generalize wr.drewN nq = wx at *
          go_wp2_with (at_builtin; refine wpList_app _ rfl _ _ 22 rfl w.heap.size Try.underlying22 int_info _ (dmgL xs j) rfl (O.alloc _) _ _ 1 1 [(j : Int)] rfl (lit_ints _ [(j : Int)] 2 (by simp)) (by have := HD.out; omega) (by rw [World.size_alloc]; omega) ?_; intro v' w' hown' hg' hob)
          have BX := app_below' BW (Nat.le_refl _) zw O hg'
          go_wp2
          go_roundw
          case rel => exact ⟨j + 1, by omega, by go_num, by rw [HS.out]; exact hown', BX⟩
          case measure => simp [intOf]; omega
        · obtain ⟨m, rfl⟩ : ∃ m, l2 = m + 3 := ⟨l2 - 3, by omega⟩
          obtain ⟨ad, rfl, -, -⟩ := I2.at_ 0 (by omega)
          have hm2 : 2 ≤ m := by omega
          have hbd := badB_5 hl2 hm2
          have hcm : ∀ x ∈ cutL 33 xs j, 0 ≤ x ∧ x ≤ 255 := cutL_mem HB.out
          have hct : ∀ x ∈ (cutL 33 xs j).take m, 0 ≤ x ∧ x ≤ 255 := fun x hx => hcm x (List.mem_of_mem_take hx)
          have hcd : ∀ x ∈ (cutL 33 xs j).drop m, 0 ≤ x ∧ x ≤ 255 := fun x hx => hcm x (List.mem_of_mem_drop hx)
          have HK := Lib.hid (fun (A' : Option Addr) (n' c' B' : Nat) (W : World) (hI : IntsAt W B' A' n' c' ((cutL 33 xs j).take m)) (hB' : B' ≤ W.heap.size) (hn' : n' ≤ 2000) => s_l09Check j A' n' c' ((cutL 33 xs j).take m) B' W hI hB' hct hn' (by omega))
          have J1 : IntsAt wr.drew B (some ad) m c2 ((cutL 33 xs j).take m) := (I2.cutTo m (by omega)).drew
          have J2 : IntsAt wr B (some (ad.add m)) 3 (c2 - m) ((cutL 33 xs j).drop m) := by
            have := I2.cutFrom m (by omega)
            rw [if_neg (by omega), show m + 3 - m = 3 by omega] at this
            exact this
          have hN := regC_lt j ((cutL 33 xs j).take m) (by omega)
          have hmm : m ≤ 2000 := by omega
          have hdl : ((cutL 33 xs j).drop m).length = 3 := by rw [List.length_drop, hl2]; omega
          have hab : ad.block < B := by obtain ⟨a, e, hb', -⟩ := I2.at_ 0 (by omega); cases e; exact hb'
          clear hl33 hl2 h5 hct hcm I2
          generalize (cutL 33 xs j).take m = Y1 at *
          generalize (cutL 33 xs j).drop m = Y2 at *
          generalize regC j Y1 = N at *
          obtain ⟨ya, yb, yc, hdrop⟩ : ∃ a b c : Int, Y2 = [a, b, c] := by
            match Y2, hdl with
            | [a, b, c], _ => exact ⟨a, b, c, rfl⟩
          subst hdrop
          have hya := hcd ya (by simp)
          have hyb := hcd yb (by simp)
          have hyc := hcd yc (by simp)
          obtain ⟨k0, k1, k2⟩ : wr.cell? (ad.add m) = some (.int .i64 ya) ∧ wr.cell? (ad.add (m + 1)) = some (.int .i64 yb) ∧ wr.cell? (ad.add (m + 2)) = some (.int .i64 yc) := by
            obtain ⟨a0, e0, _, k0⟩ := J2.at_ 0 (by omega)
            obtain ⟨a1, e1, _, k1⟩ := J2.at_ 1 (by omega)
            obtain ⟨a2, e2, _, k2⟩ := J2.at_ 2 (by omega)
            cases e0; cases e1; cases e2
            rw [add_add'] at k0 k1 k2
            exact ⟨by simpa using k0, by simpa using k1, by simpa using k2⟩
          have k1' : wr.cell? ⟨ad.block, ad.off + (m + 1), none⟩ = some (.int .i64 yb) := k1
          have k2' : wr.cell? ⟨ad.block, ad.off + (m + 2), none⟩ = some (.int .i64 yc) := k2
          have hXe : eqL (three N) [ya, yb, yc] = ((N : Int) == ya * 65536 + yb * 256 + yc) := by
            rw [Bool.eq_iff_iff]
            simp only [eqL, decide_eq_true_eq, beq_iff_eq]
            exact three_inj N hN ya yb yc hya hyb hyc
          rw [hXe] at hbd
          have HBD := Lib.hid hbd
          have i1 : (0 : Int) ≤ (m : Int) := by omega
          have i2 : (m : Int) ≤ (c2 : Int) := by omega
          have i3 : (m : Int) ≤ (m : Int) + 3 := by omega
          have i5 : c2 ≠ m := by omega
          have j1 : (m : Int) < (m : Int) + 3 := by omega
          have j2 : (m : Int) + 1 < (m : Int) + 3 := by omega
          have j3 : (m : Int) + 2 < (m : Int) + 3 := by omega
          have j4 : (0 : Int) ≤ (m : Int) + 1 := by omega
          have j5 : (0 : Int) ≤ (m : Int) + 2 := by omega
          have t1 : ((m : Int) + 1).toNat = m + 1 := by omega
          have t2 : ((m : Int) + 2).toNat = m + 2 := by omega
          have w1 : IntKind.i64.wrap ((m : Int) + 1) = (m : Int) + 1 := IntWalk.i64_in _ (by omega)
          have w2 : IntKind.i64.wrap ((m : Int) + 2) = (m : Int) + 2 := IntWalk.i64_in _ (by omega)
          have w3 : IntKind.i64.wrap (ya * 65536) = ya * 65536 := IntWalk.i64_in _ (by omega)
          have w4' : IntKind.i64.wrap (yb * 256) = yb * 256 := IntWalk.i64_in _ (by omega)
          have w5 : IntKind.i64.wrap (ya * 65536 + yb * 256) = ya * 65536 + yb * 256 := IntWalk.i64_in _ (by omega)
          have w6 : IntKind.i64.wrap (ya * 65536 + yb * 256 + yc) = ya * 65536 + yb * 256 + yc := IntWalk.i64_in _ (by omega)
          have hd5 : decide ((m : Int) < 2) = false := by simp; omega
          have hBw : B ≤ wr.heap.size := by omega
          have HK2 : Calls Try.prog 96 #[.int .i64 (j : Int), .slice (some ad) m c2] wr.drew fun e w' => e = .returned (.int .i64 ((N : Nat) : Int)) ∧ (w'.cell? (ad.add m) = some (.int .i64 ya) ∧ w'.cell? ⟨ad.block, ad.off + (m + 1), none⟩ = some (.int .i64 yb) ∧ w'.cell? ⟨ad.block, ad.off + (m + 2), none⟩ = some (.int .i64 yc)) ∧ IOwn w' w.heap.size u3 (dmgL xs j) ∧ Below w.heap.size w w' := by
            refine (HK.out _ _ _ _ _ J1 (show B ≤ wr.heap.size from hBw) hmm).mono ?_
            rintro e w4 ⟨rfl, b4⟩
            have hl : ad.block < wr.drew.heap.size := show ad.block < wr.heap.size by omega
            exact ⟨rfl, ⟨(b4.cell (p := ad.add m) (by rw [block_add]; exact hl)).trans k0, (b4.cell (p := ⟨ad.block, ad.off + (m + 1), none⟩) hl).trans k1', (b4.cell (p := ⟨ad.block, ad.off + (m + 2), none⟩) hl).trans k2'⟩, (O.drewN 1).below_ b4, BW.drew.trans (b4.mono zw)⟩
          replace HK2 := Lib.hid HK2
          clear HK J1 J2 hmm hcd hdl hXe hbd hya hyb hyc hN k1 k2
          go_upto_region 7 with fail
          go_region_held3 (fun w' => w'.cell? (ad.add m) = some (.int .i64 ya) ∧ w'.cell? ⟨ad.block, ad.off + (m + 1), none⟩ = some (.int .i64 yb) ∧ w'.cell? ⟨ad.block, ad.off + (m + 2), none⟩ = some (.int .i64 yc)) (go_keep) (first
            | (go_at_call 96; with_reducible refine HK2.out.mono ?_; rintro e w9 ⟨rfl, K9, F9⟩; clear k0 k1' k2'; obtain ⟨k0, k1', k2'⟩ := K9))
          obtain ⟨O4, BW4⟩ := F9
          have O := O4
          replace BW := BW4
          clear O4 BW4 k0 k1' k2' HK2 zw i1 i2 i3 i5 hd5 j1 j2 j3 j4 j5 t1 t2 w1 w2 w3 w4' w5 w6
          have zw := BW.size
          generalize w9 = wx at *
          have hbn : ((N : Int) != ya * 65536 + yb * 256 + yc) = !((N : Int) == ya * 65536 + yb * 256 + yc) := rfl
          try rw [hbn]
          clear hbn
          generalize ((N : Int) == ya * 65536 + yb * 256 + yc) = ee at *
          cases ee
          · have HS := Lib.hid (dmg_bad (xs := xs) (j := j) (HBD.out.trans rfl))
            go_wp2_with (at_builtin; refine wpList_app _ rfl _ _ 22 rfl w.heap.size Try.underlying22 int_info _ (dmgL xs j) rfl (O.alloc _) _ _ 1 1 [(j : Int)] rfl (lit_ints _ [(j : Int)] 2 (by simp)) (by have := HD.out; omega) (by rw [World.size_alloc]; omega) ?_; intro v' w' hown' hg' hob)
            have BX := app_below' BW (Nat.le_refl _) zw O hg'
            go_wp2
            go_roundw
            case rel => exact ⟨j + 1, by omega, by go_num, by rw [HS.out]; exact hown', BX⟩
            case measure => simp [intOf]; omega
          · have HS := Lib.hid (dmg_good (xs := xs) (j := j) (HBD.out.trans rfl))
            go_wp2
            go_roundw
            case rel => exact ⟨j + 1, by omega, by go_num, by rw [HS.out]; exact O, BW⟩
            case measure => simp [intOf]; omega
      · by_cases hjz : j = 0
        · have hj0' : ((j : Int) == 0) = true := by simp; omega
          clear hj0 hjz
          go_wp2_with (go_at_call 62; refine C1.out.mono ?_; rintro e w' ⟨A2, l2, c2, rfl, I2, rfl⟩; have hl2 := I2.len; have hle2 := I2.le; have hl33' : (l2 : Int) ≤ 33 := (by omega))
          have hcm2 : c2 ≤ 9223372036854775807 := Nat.le_trans I2.cap (by unfold maxLen; omega)
          clear C1
          by_cases h5 : l2 < 5
          · have HS := Lib.hid (dmg_bad (xs := xs) (j := j) (by simp only [badB, Bool.or_eq_true, decide_eq_true_eq]; exact .inl (by omega)))
            have h5' : (l2 : Int) < 5 := by omega
            have hd5 : decide ((l2 : Int) - 3 < 2) = true := by simp; omega
            clear hl33 hl2 h5
            go_upto_region 7 with fail
            go_quiet (fail)
            replace O := O.drewN nq
            replace BW := below_drewN BW nq
            have zw' : w.heap.size ≤ (wr.drewN nq).heap.size := zw
            clear I2 zw
            have zw := zw'
            clear zw'
            generalize wr.drewN nq = wx at *
            go_wp2_with (at_builtin; refine wpList_app _ rfl _ _ 22 rfl w.heap.size Try.underlying22 int_info _ (dmgL xs j) rfl (O.alloc _) _ _ 1 1 [(j : Int)] rfl (lit_ints _ [(j : Int)] 2 (by simp)) (by have := HD.out; omega) (by rw [World.size_alloc]; omega) ?_; intro v' w' hown' hg' hob)
            have BX := app_below' BW (Nat.le_refl _) zw O hg'
            go_wp2
            go_roundw
            case rel => exact ⟨j + 1, by omega, by go_num, by rw [HS.out]; exact hown', BX⟩
            case measure => simp [intOf]; omega
          · obtain ⟨m, rfl⟩ : ∃ m, l2 = m + 3 := ⟨l2 - 3, by omega⟩
            obtain ⟨ad, rfl, -, -⟩ := I2.at_ 0 (by omega)
            have hm2 : 2 ≤ m := by omega
            have hbd := badB_5 hl2 hm2
            have hcm : ∀ x ∈ cutL 33 xs j, 0 ≤ x ∧ x ≤ 255 := cutL_mem HB.out
            have hct : ∀ x ∈ (cutL 33 xs j).take m, 0 ≤ x ∧ x ≤ 255 := fun x hx => hcm x (List.mem_of_mem_take hx)
            have hcd : ∀ x ∈ (cutL 33 xs j).drop m, 0 ≤ x ∧ x ≤ 255 := fun x hx => hcm x (List.mem_of_mem_drop hx)
            have HK := Lib.hid (fun (A' : Option Addr) (n' c' B' : Nat) (W : World) (hI : IntsAt W B' A' n' c' ((cutL 33 xs j).take m)) (hB' : B' ≤ W.heap.size) (hn' : n' ≤ 2000) => s_l09Check j A' n' c' ((cutL 33 xs j).take m) B' W hI hB' hct hn' (by omega))
            have J1 : IntsAt wr.drew B (some ad) m c2 ((cutL 33 xs j).take m) := (I2.cutTo m (by omega)).drew
            have J2 : IntsAt wr B (some (ad.add m)) 3 (c2 - m) ((cutL 33 xs j).drop m) := by
              have := I2.cutFrom m (by omega)
              rw [if_neg (by omega), show m + 3 - m = 3 by omega] at this
              exact this
            have hN := regC_lt j ((cutL 33 xs j).take m) (by omega)
            have hmm : m ≤ 2000 := by omega
            have hdl : ((cutL 33 xs j).drop m).length = 3 := by rw [List.length_drop, hl2]; omega
            have hab : ad.block < B := by obtain ⟨a, e, hb', -⟩ := I2.at_ 0 (by omega); cases e; exact hb'
            clear hl33 hl2 h5 hct hcm I2
            generalize (cutL 33 xs j).take m = Y1 at *
            generalize (cutL 33 xs j).drop m = Y2 at *
            generalize regC j Y1 = N at *
            obtain ⟨ya, yb, yc, hdrop⟩ : ∃ a b c : Int, Y2 = [a, b, c] := by
              match Y2, hdl with
              | [a, b, c], _ => exact ⟨a, b, c, rfl⟩
            subst hdrop
            have hya := hcd ya (by simp)
            have hyb := hcd yb (by simp)
            have hyc := hcd yc (by simp)
            obtain ⟨k0, k1, k2⟩ : wr.cell? (ad.add m) = some (.int .i64 ya) ∧ wr.cell? (ad.add (m + 1)) = some (.int .i64 yb) ∧ wr.cell? (ad.add (m + 2)) = some (.int .i64 yc) := by
              obtain ⟨a0, e0, _, k0⟩ := J2.at_ 0 (by omega)
              obtain ⟨a1, e1, _, k1⟩ := J2.at_ 1 (by omega)
              obtain ⟨a2, e2, _, k2⟩ := J2.at_ 2 (by omega)
              cases e0; cases e1; cases e2
              rw [add_add'] at k0 k1 k2
              exact ⟨by simpa using k0, by simpa using k1, by simpa using k2⟩
            have k1' : wr.cell? ⟨ad.block, ad.off + (m + 1), none⟩ = some (.int .i64 yb) := k1
            have k2' : wr.cell? ⟨ad.block, ad.off + (m + 2), none⟩ = some (.int .i64 yc) := k2
            have hXe : eqL (three N) [ya, yb, yc] = ((N : Int) == ya * 65536 + yb * 256 + yc) := by
              rw [Bool.eq_iff_iff]
              simp only [eqL, decide_eq_true_eq, beq_iff_eq]
              exact three_inj N hN ya yb yc hya hyb hyc
            rw [hXe] at hbd
            have HBD := Lib.hid hbd
            have i1 : (0 : Int) ≤ (m : Int) := by omega
            have i2 : (m : Int) ≤ (c2 : Int) := by omega
            have i3 : (m : Int) ≤ (m : Int) + 3 := by omega
            have i5 : c2 ≠ m := by omega
            have j1 : (m : Int) < (m : Int) + 3 := by omega
            have j2 : (m : Int) + 1 < (m : Int) + 3 := by omega
            have j3 : (m : Int) + 2 < (m : Int) + 3 := by omega
            have j4 : (0 : Int) ≤ (m : Int) + 1 := by omega
            have j5 : (0 : Int) ≤ (m : Int) + 2 := by omega
            have t1 : ((m : Int) + 1).toNat = m + 1 := by omega
            have t2 : ((m : Int) + 2).toNat = m + 2 := by omega
            have w1 : IntKind.i64.wrap ((m : Int) + 1) = (m : Int) + 1 := IntWalk.i64_in _ (by omega)
            have w2 : IntKind.i64.wrap ((m : Int) + 2) = (m : Int) + 2 := IntWalk.i64_in _ (by omega)
            have w3 : IntKind.i64.wrap (ya * 65536) = ya * 65536 := IntWalk.i64_in _ (by omega)
            have w4' : IntKind.i64.wrap (yb * 256) = yb * 256 := IntWalk.i64_in _ (by omega)
            have w5 : IntKind.i64.wrap (ya * 65536 + yb * 256) = ya * 65536 + yb * 256 := IntWalk.i64_in _ (by omega)
            have w6 : IntKind.i64.wrap (ya * 65536 + yb * 256 + yc) = ya * 65536 + yb * 256 + yc := IntWalk.i64_in _ (by omega)
            have hd5 : decide ((m : Int) < 2) = false := by simp; omega
            have hBw : B ≤ wr.heap.size := by omega
            have HK2 : Calls Try.prog 96 #[.int .i64 (j : Int), .slice (some ad) m c2] wr.drew fun e w' => e = .returned (.int .i64 ((N : Nat) : Int)) ∧ (w'.cell? (ad.add m) = some (.int .i64 ya) ∧ w'.cell? ⟨ad.block, ad.off + (m + 1), none⟩ = some (.int .i64 yb) ∧ w'.cell? ⟨ad.block, ad.off + (m + 2), none⟩ = some (.int .i64 yc)) ∧ IOwn w' w.heap.size u3 (dmgL xs j) ∧ Below w.heap.size w w' := by
              refine (HK.out _ _ _ _ _ J1 (show B ≤ wr.heap.size from hBw) hmm).mono ?_
              rintro e w4 ⟨rfl, b4⟩
              have hl : ad.block < wr.drew.heap.size := show ad.block < wr.heap.size by omega
              exact ⟨rfl, ⟨(b4.cell (p := ad.add m) (by rw [block_add]; exact hl)).trans k0, (b4.cell (p := ⟨ad.block, ad.off + (m + 1), none⟩) hl).trans k1', (b4.cell (p := ⟨ad.block, ad.off + (m + 2), none⟩) hl).trans k2'⟩, (O.drewN 1).below_ b4, BW.drew.trans (b4.mono zw)⟩
            replace HK2 := Lib.hid HK2
            clear HK J1 J2 hmm hcd hdl hXe hbd hya hyb hyc hN k1 k2
            go_upto_region 7 with fail
            go_region_held3 (fun w' => w'.cell? (ad.add m) = some (.int .i64 ya) ∧ w'.cell? ⟨ad.block, ad.off + (m + 1), none⟩ = some (.int .i64 yb) ∧ w'.cell? ⟨ad.block, ad.off + (m + 2), none⟩ = some (.int .i64 yc)) (go_keep) (first
              | (go_at_call 96; with_reducible refine HK2.out.mono ?_; rintro e w9 ⟨rfl, K9, F9⟩; clear k0 k1' k2'; obtain ⟨k0, k1', k2'⟩ := K9))
            obtain ⟨O4, BW4⟩ := F9
            have O := O4
            replace BW := BW4
            clear O4 BW4 k0 k1' k2' HK2 zw i1 i2 i3 i5 hd5 j1 j2 j3 j4 j5 t1 t2 w1 w2 w3 w4' w5 w6
            have zw := BW.size
            generalize w9 = wx at *
            have hbn : ((N : Int) != ya * 65536 + yb * 256 + yc) = !((N : Int) == ya * 65536 + yb * 256 + yc) := rfl
            try rw [hbn]
            clear hbn
            generalize ((N : Int) == ya * 65536 + yb * 256 + yc) = ee at *
            cases ee
            · have HS := Lib.hid (dmg_bad (xs := xs) (j := j) (HBD.out.trans rfl))
              go_wp2_with (at_builtin; refine wpList_app _ rfl _ _ 22 rfl w.heap.size Try.underlying22 int_info _ (dmgL xs j) rfl (O.alloc _) _ _ 1 1 [(j : Int)] rfl (lit_ints _ [(j : Int)] 2 (by simp)) (by have := HD.out; omega) (by rw [World.size_alloc]; omega) ?_; intro v' w' hown' hg' hob)
              have BX := app_below' BW (Nat.le_refl _) zw O hg'
              go_wp2
              go_roundw
              case rel => exact ⟨j + 1, by omega, by go_num, by rw [HS.out]; exact hown', BX⟩
              case measure => simp [intOf]; omega
            · have HS := Lib.hid (dmg_good (xs := xs) (j := j) (HBD.out.trans rfl))
              go_wp2
              go_roundw
              case rel => exact ⟨j + 1, by omega, by go_num, by rw [HS.out]; exact O, BW⟩
              case measure => simp [intOf]; omega
        · have hj0' : ((j : Int) == 0) = false := by simp; omega
          have hj2 : (j : Int) * 33 < (n : Int) := by omega
          clear hj0 hjz
          go_wp2_with (go_at_call 62; refine C1.out.mono ?_; rintro e w' ⟨A2, l2, c2, rfl, I2, rfl⟩; have hl2 := I2.len; have hle2 := I2.le; have hl33' : (l2 : Int) ≤ 33 := (by omega))
          have hcm2 : c2 ≤ 9223372036854775807 := Nat.le_trans I2.cap (by unfold maxLen; omega)
          clear C1
          by_cases h5 : l2 < 5
          · have HS := Lib.hid (dmg_bad (xs := xs) (j := j) (by simp only [badB, Bool.or_eq_true, decide_eq_true_eq]; exact .inl (by omega)))
            have h5' : (l2 : Int) < 5 := by omega
            have hd5 : decide ((l2 : Int) - 3 < 2) = true := by simp; omega
            clear hl33 hl2 h5
            go_upto_region 7 with fail
            go_quiet (fail)
            replace O := O.drewN nq
            replace BW := below_drewN BW nq
            have zw' : w.heap.size ≤ (wr.drewN nq).heap.size := zw
            clear I2 zw
            have zw := zw'
            clear zw'
            generalize wr.drewN nq = wx at *
            go_wp2_with (at_builtin; refine wpList_app _ rfl _ _ 22 rfl w.heap.size Try.underlying22 int_info _ (dmgL xs j) rfl (O.alloc _) _ _ 1 1 [(j : Int)] rfl (lit_ints _ [(j : Int)] 2 (by simp)) (by have := HD.out; omega) (by rw [World.size_alloc]; omega) ?_; intro v' w' hown' hg' hob)
            have BX := app_below' BW (Nat.le_refl _) zw O hg'
            go_wp2
            go_roundw
            case rel => exact ⟨j + 1, by omega, by go_num, by rw [HS.out]; exact hown', BX⟩
            case measure => simp [intOf]; omega
          · obtain ⟨m, rfl⟩ : ∃ m, l2 = m + 3 := ⟨l2 - 3, by omega⟩
            obtain ⟨ad, rfl, -, -⟩ := I2.at_ 0 (by omega)
            have hm2 : 2 ≤ m := by omega
            have hbd := badB_5 hl2 hm2
            have hcm : ∀ x ∈ cutL 33 xs j, 0 ≤ x ∧ x ≤ 255 := cutL_mem HB.out
            have hct : ∀ x ∈ (cutL 33 xs j).take m, 0 ≤ x ∧ x ≤ 255 := fun x hx => hcm x (List.mem_of_mem_take hx)
            have hcd : ∀ x ∈ (cutL 33 xs j).drop m, 0 ≤ x ∧ x ≤ 255 := fun x hx => hcm x (List.mem_of_mem_drop hx)
            have HK := Lib.hid (fun (A' : Option Addr) (n' c' B' : Nat) (W : World) (hI : IntsAt W B' A' n' c' ((cutL 33 xs j).take m)) (hB' : B' ≤ W.heap.size) (hn' : n' ≤ 2000) => s_l09Check j A' n' c' ((cutL 33 xs j).take m) B' W hI hB' hct hn' (by omega))
            have J1 : IntsAt wr.drew B (some ad) m c2 ((cutL 33 xs j).take m) := (I2.cutTo m (by omega)).drew
            have J2 : IntsAt wr B (some (ad.add m)) 3 (c2 - m) ((cutL 33 xs j).drop m) := by
              have := I2.cutFrom m (by omega)
              rw [if_neg (by omega), show m + 3 - m = 3 by omega] at this
              exact this
            have hN := regC_lt j ((cutL 33 xs j).take m) (by omega)
            have hmm : m ≤ 2000 := by omega
            have hdl : ((cutL 33 xs j).drop m).length = 3 := by rw [List.length_drop, hl2]; omega
            have hab : ad.block < B := by obtain ⟨a, e, hb', -⟩ := I2.at_ 0 (by omega); cases e; exact hb'
            clear hl33 hl2 h5 hct hcm I2
            generalize (cutL 33 xs j).take m = Y1 at *
            generalize (cutL 33 xs j).drop m = Y2 at *
            generalize regC j Y1 = N at *
            obtain ⟨ya, yb, yc, hdrop⟩ : ∃ a b c : Int, Y2 = [a, b, c] := by
              match Y2, hdl with
              | [a, b, c], _ => exact ⟨a, b, c, rfl⟩
            subst hdrop
            have hya := hcd ya (by simp)
            have hyb := hcd yb (by simp)
            have hyc := hcd yc (by simp)
            obtain ⟨k0, k1, k2⟩ : wr.cell? (ad.add m) = some (.int .i64 ya) ∧ wr.cell? (ad.add (m + 1)) = some (.int .i64 yb) ∧ wr.cell? (ad.add (m + 2)) = some (.int .i64 yc) := by
              obtain ⟨a0, e0, _, k0⟩ := J2.at_ 0 (by omega)
              obtain ⟨a1, e1, _, k1⟩ := J2.at_ 1 (by omega)
              obtain ⟨a2, e2, _, k2⟩ := J2.at_ 2 (by omega)
              cases e0; cases e1; cases e2
              rw [add_add'] at k0 k1 k2
              exact ⟨by simpa using k0, by simpa using k1, by simpa using k2⟩
            have k1' : wr.cell? ⟨ad.block, ad.off + (m + 1), none⟩ = some (.int .i64 yb) := k1
            have k2' : wr.cell? ⟨ad.block, ad.off + (m + 2), none⟩ = some (.int .i64 yc) := k2
            have hXe : eqL (three N) [ya, yb, yc] = ((N : Int) == ya * 65536 + yb * 256 + yc) := by
              rw [Bool.eq_iff_iff]
              simp only [eqL, decide_eq_true_eq, beq_iff_eq]
              exact three_inj N hN ya yb yc hya hyb hyc
            rw [hXe] at hbd
            have HBD := Lib.hid hbd
            have i1 : (0 : Int) ≤ (m : Int) := by omega
            have i2 : (m : Int) ≤ (c2 : Int) := by omega
            have i3 : (m : Int) ≤ (m : Int) + 3 := by omega
            have i5 : c2 ≠ m := by omega
            have j1 : (m : Int) < (m : Int) + 3 := by omega
            have j2 : (m : Int) + 1 < (m : Int) + 3 := by omega
            have j3 : (m : Int) + 2 < (m : Int) + 3 := by omega
            have j4 : (0 : Int) ≤ (m : Int) + 1 := by omega
            have j5 : (0 : Int) ≤ (m : Int) + 2 := by omega
            have t1 : ((m : Int) + 1).toNat = m + 1 := by omega
            have t2 : ((m : Int) + 2).toNat = m + 2 := by omega
            have w1 : IntKind.i64.wrap ((m : Int) + 1) = (m : Int) + 1 := IntWalk.i64_in _ (by omega)
            have w2 : IntKind.i64.wrap ((m : Int) + 2) = (m : Int) + 2 := IntWalk.i64_in _ (by omega)
            have w3 : IntKind.i64.wrap (ya * 65536) = ya * 65536 := IntWalk.i64_in _ (by omega)
            have w4' : IntKind.i64.wrap (yb * 256) = yb * 256 := IntWalk.i64_in _ (by omega)
            have w5 : IntKind.i64.wrap (ya * 65536 + yb * 256) = ya * 65536 + yb * 256 := IntWalk.i64_in _ (by omega)
            have w6 : IntKind.i64.wrap (ya * 65536 + yb * 256 + yc) = ya * 65536 + yb * 256 + yc := IntWalk.i64_in _ (by omega)
            have hd5 : decide ((m : Int) < 2) = false := by simp; omega
            have hBw : B ≤ wr.heap.size := by omega
            have HK2 : Calls Try.prog 96 #[.int .i64 (j : Int), .slice (some ad) m c2] wr.drew fun e w' => e = .returned (.int .i64 ((N : Nat) : Int)) ∧ (w'.cell? (ad.add m) = some (.int .i64 ya) ∧ w'.cell? ⟨ad.block, ad.off + (m + 1), none⟩ = some (.int .i64 yb) ∧ w'.cell? ⟨ad.block, ad.off + (m + 2), none⟩ = some (.int .i64 yc)) ∧ IOwn w' w.heap.size u3 (dmgL xs j) ∧ Below w.heap.size w w' := by
              refine (HK.out _ _ _ _ _ J1 (show B ≤ wr.heap.size from hBw) hmm).mono ?_
              rintro e w4 ⟨rfl, b4⟩
              have hl : ad.block < wr.drew.heap.size := show ad.block < wr.heap.size by omega
              exact ⟨rfl, ⟨(b4.cell (p := ad.add m) (by rw [block_add]; exact hl)).trans k0, (b4.cell (p := ⟨ad.block, ad.off + (m + 1), none⟩) hl).trans k1', (b4.cell (p := ⟨ad.block, ad.off + (m + 2), none⟩) hl).trans k2'⟩, (O.drewN 1).below_ b4, BW.drew.trans (b4.mono zw)⟩
            replace HK2 := Lib.hid HK2
            clear HK J1 J2 hmm hcd hdl hXe hbd hya hyb hyc hN k1 k2
            go_upto_region 7 with fail
            go_region_held3 (fun w' => w'.cell? (ad.add m) = some (.int .i64 ya) ∧ w'.cell? ⟨ad.block, ad.off + (m + 1), none⟩ = some (.int .i64 yb) ∧ w'.cell? ⟨ad.block, ad.off + (m + 2), none⟩ = some (.int .i64 yc)) (go_keep) (first
              | (go_at_call 96; with_reducible refine HK2.out.mono ?_; rintro e w9 ⟨rfl, K9, F9⟩; clear k0 k1' k2'; obtain ⟨k0, k1', k2'⟩ := K9))
            obtain ⟨O4, BW4⟩ := F9
            have O := O4
            replace BW := BW4
            clear O4 BW4 k0 k1' k2' HK2 zw i1 i2 i3 i5 hd5 j1 j2 j3 j4 j5 t1 t2 w1 w2 w3 w4' w5 w6
            have zw := BW.size
            generalize w9 = wx at *
            have hbn : ((N : Int) != ya * 65536 + yb * 256 + yc) = !((N : Int) == ya * 65536 + yb * 256 + yc) := rfl
            try rw [hbn]
            clear hbn
            generalize ((N : Int) == ya * 65536 + yb * 256 + yc) = ee at *
            cases ee
            · have HS := Lib.hid (dmg_bad (xs := xs) (j := j) (HBD.out.trans rfl))
              go_wp2_with (at_builtin; refine wpList_app _ rfl _ _ 22 rfl w.heap.size Try.underlying22 int_info _ (dmgL xs j) rfl (O.alloc _) _ _ 1 1 [(j : Int)] rfl (lit_ints _ [(j : Int)] 2 (by simp)) (by have := HD.out; omega) (by rw [World.size_alloc]; omega) ?_; intro v' w' hown' hg' hob)
              have BX := app_below' BW (Nat.le_refl _) zw O hg'
              go_wp2
              go_roundw
              case rel => exact ⟨j + 1, by omega, by go_num, by rw [HS.out]; exact hown', BX⟩
              case measure => simp [intOf]; omega
            · have HS := Lib.hid (dmg_good (xs := xs) (j := j) (HBD.out.trans rfl))
              go_wp2
              go_roundw
              case rel => exact ⟨j + 1, by omega, by go_num, by rw [HS.out]; exact O, BW⟩
              case measure => simp [intOf]; omega
    · have hjM : j = M := by omega
      have HO := Lib.hid (show IOwn wr w.heap.size u3 (dmgL xs M) by rw [← hjM]; exact O)
      have hj0' : ((j : Int) == 0) = false := by simp; omega
      have hj2 : (n : Int) ≤ (j : Int) * 33 := by omega
      have hj1 : (j : Int) ≤ 100 := by omega
      clear hjM O
      go_wp2
      go_ret
      exact ⟨_, rfl, HO.out, BW⟩
end Go.Proofs.Ytjheanonklgbcaa

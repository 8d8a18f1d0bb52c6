/- Contracts of DamagedBlocks. -/
import Derived.Test.YtjheanonklgbcaaThr
import Derived.Deep.RegionHeld3
import Derived.BigRegion
import Derived.BigQuiet
import Derived.Deep.RegionWith
namespace Go.Proofs.Ytjheanonklgbcaa
open Go.RowKit
set_option linter.unusedSimpArgs false
set_option linter.unusedVariables false
/-- Whether the slice k of an image is damaged. -/
def badB (xs : List Int) (k : Nat) : Bool := decide ((cutL 33 xs k).length < 5) || !(eqL (three (regC k ((cutL 33 xs k).take ((cutL 33 xs k).length - 3)))) ((cutL 33 xs k).drop ((cutL 33 xs k).length - 3)))
def dmgL (xs : List Int) : Nat → List Int
  | 0 => []
  | m + 1 => dmgL xs m ++ (if badB xs m then [(m : Int)] else [])
theorem dmgL_len (xs : List Int) (m : Nat) : (dmgL xs m).length ≤ m := by
  induction m with
  | zero => simp [dmgL]
  | succ m ih => simp only [dmgL, List.length_append]; split <;> simp <;> omega
theorem cutL_mem {N k : Nat} {xs : List Int} {a b : Int} (h : ∀ x ∈ xs, a ≤ x ∧ x ≤ b) : ∀ x ∈ cutL N xs k, a ≤ x ∧ x ≤ b := fun x hx => h x (List.mem_of_mem_drop (List.mem_of_mem_take hx))
theorem dmg_bad {xs : List Int} {j : Nat} (h : badB xs j = true) : dmgL xs (j + 1) = dmgL xs j ++ [(j : Int)] := by simp [dmgL, h]
theorem dmg_good {xs : List Int} {j : Nat} (h : badB xs j = false) : dmgL xs (j + 1) = dmgL xs j := by simp [dmgL, h]
theorem badB_5 {xs : List Int} {j m : Nat} (h : (cutL 33 xs j).length = m + 3) (h2 : 2 ≤ m) : badB xs j = !(eqL (three (regC j ((cutL 33 xs j).take m))) ((cutL 33 xs j).drop m)) := by
  unfold badB
  rw [h, Nat.add_sub_cancel, show decide (m + 3 < 5) = false by simp; omega, Bool.false_or]
set_option maxHeartbeats 4000000 in
theorem i_damaged (A : Option Addr) (n c : Nat) (xs : List Int) (B : Nat) (w : World) (h : IntsAt w B A n c xs) (hB : B ≤ w.heap.size) (hb : ∀ x ∈ xs, 0 ≤ x ∧ x ≤ 255) (hn : n ≤ 1024) :
    Calls Try.prog 71 #[.slice A n c] w fun e w' => ∃ u, e = .returned u ∧ IOwn w' w.heap.size u (dmgL xs (cutN 33 n)) ∧ Below w.heap.size w w' := by
  have o0 := lit_own w [] w.heap.size (Nat.le_refl _) (by simp)
  have hI := h.alloc hB (.cells #[] 2)
  have B0 := (Below.refl w.heap.size w).alloc (Nat.le_refl _) (.cells #[] 2)
  have C2 := Lib.hid (i_slicesOf A n c xs B (w.alloc (.cells #[] 2)) hI (by simp; omega))
  have hM1 : cutN 33 n ≤ 100 := by unfold cutN; split <;> omega
  have z0 : (w.alloc (.cells #[] 2)).heap.size = w.heap.size + 1 := by simp
  have HB := Lib.hid hb
  clear hb hI
  generalize cutN 33 n = M at *
  go_enter Try.func71, Try.ntmps71
  go_wp2_with (go_at_call 64; refine C2.out.mono ?_; rintro e w2 ⟨g, cp, rfl, hg0, hg1, hmc, hcp, P, b2⟩)
  have o2 : IOwn w2 w.heap.size (.slice (some ⟨w.heap.size, 0, none⟩) 0 0) [] := IOwn.below_ o0 b2
  have B2 := B0.trans (b2.mono (by omega))
  have hM2 : (M : Int) ≤ 100 := by omega
  have hgw : w.heap.size < g := by omega
  go_loopw [3, 4, 5, 6, 11] (fun o _ _ _ i wr => ∃ j : Nat, j ≤ M ∧ i = .int .i64 j ∧ IOwn wr w.heap.size o (dmgL xs j) ∧ o.ownBlock ≠ some g ∧ Below w.heap.size w wr ∧ PartsAt wr B g M (cutL 33 xs) ∧ g < wr.heap.size) (fun _ _ _ _ i _ => M - (intOf i).toNat)
  case atStart => exact ⟨0, by omega, rfl, o2, (by intro e; simp only [Value.ownBlock] at e; injection e with e; omega), B2, P, hg1⟩
  case round =>
    clear o2 B2 P b2 C2 hg1 o0 B0 z0 h hg0
    obtain ⟨j, hj, rfl, O, hne, BW, P, hg1⟩ := hrel
    have zw := BW.size
    by_cases hlt : j < M
    · obtain ⟨A2, l2, c2, hc2, I2⟩ := P j hlt
      have hj1 : (j : Int) < (M : Int) := by omega
      have hl2 := I2.len
      have hl33 := cutL_len 33 xs j
      have hle2 := I2.le
      have hcm2 : c2 ≤ 9223372036854775807 := Nat.le_trans I2.cap (by unfold maxLen; omega)
      have HD := Lib.hid (dmgL_len xs j)
      by_cases h5 : l2 < 5
      · have HS := Lib.hid (dmg_bad (xs := xs) (j := j) (by simp only [badB, Bool.or_eq_true, decide_eq_true_eq]; exact .inl (by omega)))
        have h5' : (l2 : Int) < 5 := by omega
        have hd5 : decide ((l2 : Int) - 3 < 2) = true := by simp; omega
        clear hl33 hl2 h5
        go_upto_region 6 with fail
        go_quiet (fail)
        replace O := O.drewN nq
        replace P := P.drewN nq
        replace BW := below_drewN BW nq
        have hg1' : g < (wr.drewN nq).heap.size := hg1
        have zw' : w.heap.size ≤ (wr.drewN nq).heap.size := zw
        clear hc2 I2 hg1 zw
        have hg1 := hg1'; have zw := zw'
        clear hg1' zw'
        generalize wr.drewN nq = wx at *
        go_wp2_with (at_builtin; refine wpList_app _ rfl _ _ 22 rfl w.heap.size Try.underlying22 int_info _ (dmgL xs j) rfl (O.alloc _) _ _ 1 1 [(j : Int)] rfl (lit_ints _ [(j : Int)] 2 (by simp)) (by have := HD.out; omega) (by rw [World.size_alloc]; omega) ?_; intro v' w' hown' hg' hob)
        have hg2 := hg'.size
        rw [World.size_alloc] at hg2 hob
        have BX := app_below' BW (Nat.le_refl _) zw O hg'
        have PX := (P.below (B' := wx.heap.size) hg1 (by omega) ((Below.refl _ _).alloc (Nat.le_refl _) _)).kept hg' (by rw [World.size_alloc]; omega) hne (by rw [World.size_alloc]; omega) (fun k hk => by have := (O.lt k hk).1; omega)
        have NX : v'.ownBlock ≠ some g := by
          rcases hob with e | e
          · rw [e]; exact hne
          · rw [e]; intro e'; injection e' with e'; omega
        go_wp2
        go_roundw
        case rel => exact ⟨j + 1, by omega, by go_num, by rw [HS.out]; exact hown', NX, BX, PX, (show g < w'.heap.size by omega)⟩
        case measure => simp [intOf]; omega
      · obtain ⟨m, rfl⟩ : ∃ m, l2 = m + 3 := ⟨l2 - 3, by omega⟩
        obtain ⟨ad, rfl, -, -⟩ := I2.at_ 0 (by omega)
        have hm2 : 2 ≤ m := by omega
        have hbd := badB_5 hl2 hm2
        have hcm : ∀ x ∈ cutL 33 xs j, 0 ≤ x ∧ x ≤ 255 := cutL_mem HB.out
        have hct : ∀ x ∈ (cutL 33 xs j).take m, 0 ≤ x ∧ x ≤ 255 := fun x hx => hcm x (List.mem_of_mem_take hx)
        have HK := Lib.hid (fun (A' : Option Addr) (n' c' B' : Nat) (W : World) (hI : IntsAt W B' A' n' c' ((cutL 33 xs j).take m)) (hB' : B' ≤ W.heap.size) (hn' : n' ≤ 2000) => i_blockCheck j A' n' c' ((cutL 33 xs j).take m) B' W hI hB' hct hn' (by omega))
        have J1 : IntsAt wr.drew B (some ad) m c2 ((cutL 33 xs j).take m) := (I2.cutTo m (by omega)).drew
        have J2 : IntsAt wr.drew B (some (ad.add m)) 3 (c2 - m) ((cutL 33 xs j).drop m) := by
          have := I2.cutFrom m (by omega)
          rw [if_neg (by omega), show m + 3 - m = 3 by omega] at this
          exact this.drew
        have i1 : (0 : Int) ≤ (m : Int) := by omega
        have i2 : (m : Int) ≤ (c2 : Int) := by omega
        have i3 : (m : Int) ≤ (m : Int) + 3 := by omega
        have i5 : c2 ≠ m := by omega
        have i6 : m + 3 - m = 3 := by omega
        have hd5 : decide ((m : Int) < 2) = false := by simp; omega
        have hmm : m ≤ 2000 := by omega
        have hlt3 := three_len (regC j ((cutL 33 xs j).take m))
        clear hl33 hl2 h5 hct hcm I2
        generalize (cutL 33 xs j).take m = Y1 at *
        generalize (cutL 33 xs j).drop m = Y2 at *
        generalize three (regC j Y1) = T3 at *
        have HT3 := Lib.hid hlt3
        have HBD := Lib.hid hbd
        clear hlt3 hbd
        have HK2 : Calls Try.prog 97 #[.int .i64 (j : Int), .slice (some ad) m c2] wr.drew fun e w' => ∃ A4 c4, e = .returned (.slice A4 3 c4) ∧ IntsAt w' w'.heap.size A4 3 c4 T3 ∧ IntsAt w' B (some (ad.add m)) 3 (c2 - m) Y2 ∧ IOwn w' w.heap.size u3 (dmgL xs j) ∧ PartsAt w' B g M (cutL 33 xs) ∧ Below w.heap.size w w' ∧ g < w'.heap.size := by
          refine (HK.out _ _ _ _ _ J1 (show B ≤ wr.heap.size by omega) hmm).mono ?_
          rintro e w4 ⟨u4, rfl, o4, b4⟩
          have hT := HT3.out
          obtain ⟨A4, c4, rfl, I4⟩ := o4.ints (by omega)
          rw [hT] at I4
          have z4 : wr.heap.size ≤ w4.heap.size := b4.size
          exact ⟨A4, c4, by rw [hT], I4, J2.below' (show B ≤ wr.heap.size by omega) b4, (O.drewN 1).below_ b4, (P.drewN 1).below (B' := wr.heap.size) hg1 (by omega) b4, BW.drew.trans (b4.mono zw), by omega⟩
        replace HK2 := Lib.hid HK2
        clear HK J1 J2 hmm
        go_upto_region 6 with fail
        go_region_held3 (fun _ => True) (trivial) (first
          | (go_at_call 97; with_reducible refine HK2.out.mono ?_; rintro e w4 ⟨A4, c4, rfl, I4, J4, F4⟩)
          | (go_at_call 98; with_reducible refine (l_Equal _ _ _ _ _ _ T3 Y2 _ _ _ I4 J4).mono ?_; rintro e w5 ⟨rfl, m5, rfl⟩))
        obtain ⟨O4, P4, BW4, hg4⟩ := F4
        have O := O4.drewN m5
        have P := P4.drewN m5
        replace BW := below_drewN BW4 m5
        have hg1' : g < (w4.drewN m5).heap.size := hg4
        have zw' : w.heap.size ≤ (w4.drewN m5).heap.size := BW4.size
        clear O4 P4 BW4 hg4 I4 J4 HK2 hc2 hg1 zw i1 i2 i3 i5 i6 hd5 hle2 hcm2
        have hg1 := hg1'; have zw := zw'
        clear hg1' zw'
        generalize w4.drewN m5 = wx at *
        generalize eqL T3 Y2 = ee at *
        cases ee
        · have HS := Lib.hid (dmg_bad (xs := xs) (j := j) (HBD.out.trans rfl))
          go_wp2_with (at_builtin; refine wpList_app _ rfl _ _ 22 rfl w.heap.size Try.underlying22 int_info _ (dmgL xs j) rfl (O.alloc _) _ _ 1 1 [(j : Int)] rfl (lit_ints _ [(j : Int)] 2 (by simp)) (by have := HD.out; omega) (by rw [World.size_alloc]; omega) ?_; intro v' w' hown' hg' hob)
          have hg2 := hg'.size
          rw [World.size_alloc] at hg2 hob
          have BX := app_below' BW (Nat.le_refl _) zw O hg'
          have PX := (P.below (B' := wx.heap.size) hg1 (by omega) ((Below.refl _ _).alloc (Nat.le_refl _) _)).kept hg' (by rw [World.size_alloc]; omega) hne (by rw [World.size_alloc]; omega) (fun k hk => by have := (O.lt k hk).1; omega)
          have NX : v'.ownBlock ≠ some g := by
            rcases hob with e | e
            · rw [e]; exact hne
            · rw [e]; intro e'; injection e' with e'; omega
          go_wp2
          go_roundw
          case rel => exact ⟨j + 1, by omega, by go_num, by rw [HS.out]; exact hown', NX, BX, PX, (show g < w'.heap.size by omega)⟩
          case measure => simp [intOf]; omega
        · have HS := Lib.hid (dmg_good (xs := xs) (j := j) (HBD.out.trans rfl))
          go_wp2
          go_roundw
          case rel => exact ⟨j + 1, by omega, by go_num, by rw [HS.out]; exact O, hne, BW, P, hg1⟩
          case measure => simp [intOf]; omega
    · have hjM : j = M := by omega
      have HO := Lib.hid (show IOwn wr w.heap.size u3 (dmgL xs M) by rw [← hjM]; exact O)
      clear hjM O P
      go_wp2
      go_ret
      exact ⟨_, rfl, HO.out, BW⟩
end Go.Proofs.Ytjheanonklgbcaa

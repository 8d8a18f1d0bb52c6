/- Contracts of DataOfImage. -/
import Derived.Test.YtjheanonklgbcaaImg3
import Derived.Test.YtjheanonklgbcaaDmg3
namespace Go.Proofs.Ytjheanonklgbcaa
open Go.RowKit
set_option linter.unusedSimpArgs false
set_option linter.unusedVariables false
/-- The data of the slice k of an image; those of the first m. -/
def datK (xs : List Int) (k : Nat) : List Int := ((cutL 33 xs k).drop 2).take ((cutL 33 xs k).length - 5)
def datL (xs : List Int) : Nat → List Int
  | 0 => []
  | m + 1 => datL xs m ++ datK xs m
theorem datK_len (xs : List Int) (k : Nat) : (datK xs k).length ≤ 28 := by
  have := cutL_len 33 xs k
  simp only [datK, List.length_take, List.length_drop]
  omega
theorem datL_len (xs : List Int) (m : Nat) : (datL xs m).length ≤ 28 * m := by
  induction m with
  | zero => simp [datL]
  | succ m ih => have := datK_len xs m; simp only [datL, List.length_append]; omega
theorem datL_mem {xs : List Int} {a b : Int} (h : ∀ x ∈ xs, a ≤ x ∧ x ≤ b) (m : Nat) : ∀ x ∈ datL xs m, a ≤ x ∧ x ≤ b := by
  induction m with
  | zero => intro x hx; cases hx
  | succ m ih =>
    intro x hx
    rcases List.mem_append.1 hx with hx | hx
    · exact ih x hx
    · exact h x (List.mem_of_mem_drop (List.mem_of_mem_take (List.mem_of_mem_drop (List.mem_of_mem_take hx))))
/-- Where nothing is damaged, every slice has five bytes. -/
theorem dmg_none {xs : List Int} : ∀ {m : Nat}, dmgL xs m = [] → ∀ k, k < m → badB xs k = false
  | 0, _, k, hk => by omega
  | m + 1, h, k, hk => by
    simp only [dmgL, List.append_eq_nil_iff] at h
    rcases Nat.lt_or_ge k m with h1 | h1
    · exact dmg_none h.1 k h1
    · obtain rfl : k = m := by omega
      cases hb : badB xs k
      · rfl
      · rw [hb] at h; simp at h
theorem good_len {xs : List Int} {k : Nat} (h : badB xs k = false) : 5 ≤ (cutL 33 xs k).length := by
  simp only [badB, Bool.or_eq_false_iff, decide_eq_false_iff_not] at h
  omega
/-- The code and the data of an image of bytes. -/
def dtC (xs : List Int) : Int := if dmgL xs (cutN 33 xs.length) = [] then (if (datL xs (cutN 33 xs.length)).length ≤ 868 ∧ imgL (datL xs (cutN 33 xs.length)) (cutN 28 (datL xs (cutN 33 xs.length)).length) = xs then 0 else 6) else 7
def dtL (xs : List Int) : List Int := if dtC xs = 0 then datL xs (cutN 33 xs.length) else []
def doC (xs : List Int) : Int := if bytesOk xs then dtC xs else 2
def doL (xs : List Int) : List Int := if bytesOk xs then dtL xs else []
theorem doL_len (xs : List Int) : (doL xs).length ≤ 16777216 := by
  unfold doL
  split
  · rename_i h
    unfold dtL
    split
    · have := datL_len xs (cutN 33 xs.length)
      have := cutN_le xs.length (bytesOk_len h)
      omega
    · simp
  · simp
theorem cut_mid {w : World} {B l c : Nat} {A : Option Addr} {Y : List Int} (h : IntsAt w B A l c Y) (h5 : 5 ≤ l) : IntsAt w B (A.map (·.add 2)) (l - 3 - 2) (c - 2) ((Y.drop 2).take (Y.length - 5)) := by
  have h1 := h.cut 2 (l - 3) (by omega) (by omega)
  have hle := h.le
  rw [if_neg (by omega)] at h1
  rwa [show l - 3 - 2 = Y.length - 5 by rw [h.len]; omega] at h1 ⊢
set_option maxHeartbeats 8000000 in
theorem i_dataOf (A : Option Addr) (n c : Nat) (xs : List Int) (B : Nat) (w : World) (h : IntsAt w B A n c xs) (hB : B ≤ w.heap.size) (hb : ∀ x ∈ xs, 0 ≤ x ∧ x ≤ 255) (hn : n ≤ 1024) :
    Calls Try.prog 73 #[.slice A n c] w fun e w' => ∃ u, e = .returned (.tuple #[u, .int .i64 (dtC xs)]) ∧ IOwn w' w.heap.size u (dtL xs) ∧ Below w.heap.size w w' := by
  have hxl := h.len
  obtain ⟨M, hM⟩ : ∃ M, M = cutN 33 n := ⟨_, rfl⟩
  have hMx : cutN 33 xs.length = M := by rw [hM, hxl]
  have hM1 : M ≤ 100 := by rw [hM]; unfold cutN; split <;> omega
  have C1 := i_damaged A n c xs B w h hB hb hn
  rw [← hM] at C1
  have hdl := dmgL_len xs M
  by_cases hd : dmgL xs M = []
  · have hC : dtC xs = (if (datL xs M).length ≤ 868 ∧ imgL (datL xs M) (cutN 28 (datL xs M).length) = xs then 0 else 6) := by unfold dtC; rw [hMx, if_pos hd]
    have hL : dtL xs = (if dtC xs = 0 then datL xs M else []) := by unfold dtL; rw [hMx]
    have HG := Lib.hid (dmg_none hd)
    have HML := Lib.hid (datL_mem hb M)
    have HDL := Lib.hid (datL_len xs M)
    rw [hC] at hL
    rw [hC]
    obtain ⟨LL, hLL⟩ : ∃ LL, LL = dtL xs := ⟨_, rfl⟩
    rw [← hLL]
    rw [← hLL] at hL
    obtain ⟨CC, hCC⟩ : ∃ CC : Int, CC = (if (datL xs M).length ≤ 868 ∧ imgL (datL xs M) (cutN 28 (datL xs M).length) = xs then 0 else 6) := ⟨_, rfl⟩
    rw [← hCC] at hL
    rw [← hCC]
    have HCC := Lib.hid hCC
    have HLL := Lib.hid hL
    clear hLL hCC
    rw [hd] at C1
    replace C1 := Lib.hid C1
    have HSO := Lib.hid (fun (W : World) (hI : IntsAt W B A n c xs) (hB : B ≤ W.heap.size) => i_slicesOf A n c xs B W hI hB)
    rw [← hM] at HSO
    have HI := Lib.hid h
    clear hC hL hd hMx hM h hb hdl hxl
    go_enter Try.func73, Try.ntmps73
    go_wp2_with (first
      | (go_at_call 71; refine C1.out.mono ?_; rintro e w1 ⟨u1, rfl, o1, b1⟩; have z1 := b1.size; obtain ⟨A1, c1, rfl, -⟩ := o1.ints (by simp))
      | (go_at_call 64; refine (HSO.out _ ((HI.out.below' hB b1).alloc (by omega) _) (by rw [World.size_alloc]; omega)).mono ?_; rintro e w2 ⟨g, cp, rfl, hg0, hg1, hmc, hcp, P, b2⟩))
    rw [World.size_alloc] at hg0
    have o2 : IOwn w2 w.heap.size (.slice (some ⟨w1.heap.size, 0, none⟩) 0 0) [] := IOwn.below_ (lit_own w1 [] w.heap.size z1 (by simp)) b2
    have B2 := (b1.alloc z1 (.cells #[] 2)).trans (b2.mono (by rw [World.size_alloc]; omega))
    have hM2 : (M : Int) ≤ 100 := by omega
    go_loopw [4, 6, 15] (fun o _ i wr => ∃ j : Nat, j ≤ M ∧ i = .int .i64 j ∧ IS w B g M (cutL 33 xs) o (datL xs j) wr) (fun _ _ i _ => M - (intOf i).toNat)
    case atStart => exact ⟨0, by omega, rfl, o2, (by intro e; simp only [Value.ownBlock] at e; injection e with e; omega), B2, P, hg1⟩
    case round =>
      clear o2 B2 P hg1 C1 b1 b2
      obtain ⟨j, hj, rfl, S⟩ := hrel
      have zw := S.bel.size
      by_cases hlt : j < M
      · obtain ⟨A2, l2, c2, hc2, I2⟩ := S.parts j hlt
        have hj1 : (j : Int) < (M : Int) := by omega
        have hl5 := good_len (HG.out j hlt)
        rw [I2.len] at hl5
        have hle2 := I2.le
        have hl33 := cutL_len 33 xs j
        have hl2 := I2.len
        have hl5' : (5 : Int) ≤ (l2 : Int) := by omega
        have hl33' : (l2 : Int) ≤ 33 := by omega
        have hlc : (l2 : Int) ≤ (c2 : Int) := by omega
        have I3 := cut_mid I2 hl5
        have HD := Lib.hid (datL_len xs j)
        have HDK := Lib.hid (datK_len xs j)
        have HS := Lib.hid (show datL xs (j + 1) = datL xs j ++ datK xs j from rfl)
        have hY : ((cutL 33 xs j).drop 2).take ((cutL 33 xs j).length - 5) = datK xs j := rfl
        rw [hY] at I3
        clear hY hl33 hl2 I2
        have ht3 : ((l2 : Int) - 3).toNat = l2 - 3 := by omega
        generalize datK xs j = Y at *
        go_wp2_with (first
          | (at_builtin; refine wpList_app _ rfl _ _ 22 rfl w.heap.size Try.underlying22 int_info _ (datL xs j) rfl S.own _ _ _ _ Y rfl I3 (by have := HD.out; omega) zw ?_; intro v2 w2' O2 g2 hb2; have S2 := S.app hB O2 g2 hb2))
        clear g2 hb2 O2 I3
        go_wp2
        go_roundw
        case rel => exact ⟨j + 1, by omega, by go_num, by rw [HS.out]; exact S2⟩
        case measure => simp [intOf]; omega
      · have hjM : j = M := by omega
        have S' : IS w B g M (cutL 33 xs) u4 (datL xs M) wr := by have e := S; rw [hjM] at e; exact e
        have IX := HI.out.below' hB S.bel
        clear hjM S
        obtain ⟨Ad, cd, rfl, Id⟩ := S'.own.ints (by have := HDL.out; omega)
        have BW := S'.bel
        have zw := BW.size
        have OD := Lib.hid S'.own
        clear S'
        have HDL' : (datL xs M).length ≤ 2800 := by have := HDL.out; omega
        generalize datL xs M = D at *
        by_cases h8 : D.length ≤ 868
        · have h8' : (D.length : Int) ≤ 868 := by omega
          have HIM := Lib.hid (i_imageOf Ad D.length cd D _ wr Id (Nat.le_refl _) HML.out h8)
          have hil : (imgL D (cutN 28 D.length)).length ≤ 16777216 := by have := imgL_len D (cutN 28 D.length); have := cut28_le _ h8; omega
          generalize imgL D (cutN 28 D.length) = G at *
          clear HML HDL'
          by_cases hG : G = xs
          · have hc : CC = 0 := by rw [HCC.out, if_pos ⟨h8, hG⟩]
            have hl : LL = D := by rw [HLL.out, if_pos hc]
            have hE : eqL G xs = true := by rw [hG]; exact eqL_refl _
            subst hc hl
            clear HCC HLL hG
            go_wp2_with (first
              | (go_at_call 69; refine HIM.out.mono ?_; rintro e w5 ⟨u5, rfl, o5, b5⟩; obtain ⟨A5, c5, rfl, I5⟩ := o5.ints hil)
              | (go_at_call 98; refine (l_Equal _ _ _ _ _ _ G xs _ _ _ I5 (IX.below' (by omega) b5)).mono ?_; rintro e w6 ⟨rfl, m6, rfl⟩; rw [hE]))
            go_ret2
            exact ⟨_, rfl, (OD.out.below_ b5).drewN m6, below_drewN (BW.trans (b5.mono zw)) m6⟩
          · have hc : CC = 6 := by rw [HCC.out, if_neg (fun e => hG e.2)]
            have hl : LL = [] := by rw [HLL.out, hc]; rfl
            have hE : eqL G xs = false := by simpa [eqL] using hG
            subst hc hl
            clear HCC HLL hG
            go_wp2_with (first
              | (go_at_call 69; refine HIM.out.mono ?_; rintro e w5 ⟨u5, rfl, o5, b5⟩; obtain ⟨A5, c5, rfl, I5⟩ := o5.ints hil)
              | (go_at_call 98; refine (l_Equal _ _ _ _ _ _ G xs _ _ _ I5 (IX.below' (by omega) b5)).mono ?_; rintro e w6 ⟨rfl, m6, rfl⟩; rw [hE]))
            go_ret2
            exact ⟨_, rfl, IOwn.nil _ _, below_drewN (BW.trans (b5.mono zw)) m6⟩
        · have h8' : (868 : Int) < (D.length : Int) := by omega
          have hc : CC = 6 := by rw [HCC.out, if_neg (fun e => h8 e.1)]
          have hl : LL = [] := by rw [HLL.out, hc]; rfl
          subst hc hl
          clear HCC HLL h8
          go_wp2
          go_ret2
          exact ⟨_, rfl, IOwn.nil _ _, BW⟩
  · have hC : dtC xs = 7 := by unfold dtC; rw [hMx, if_neg hd]
    have hL : dtL xs = [] := by unfold dtL; rw [hC]; rfl
    have hpos : 0 < (dmgL xs M).length := List.length_pos_iff.2 hd
    rw [hC, hL]
    replace C1 := Lib.hid C1
    generalize dmgL xs M = DD at *
    clear hC hL hd hMx hM h hb
    go_enter Try.func73, Try.ntmps73
    go_wp2_with (first
      | (go_at_call 71; refine C1.out.mono ?_; rintro e w1 ⟨u1, rfl, o1, b1⟩; obtain ⟨A1, c1, rfl, -⟩ := o1.ints (by omega)))
    go_ret2
    exact ⟨_, rfl, IOwn.nil _ _, b1⟩
end Go.Proofs.Ytjheanonklgbcaa

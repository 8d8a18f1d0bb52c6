/- The walk of the law on images that are read. -/
import Derived.Test.YtjheanonklgbcaaDrawIm
import Derived.Test.YtjheanonklgbcaaWImages
namespace Go.Proofs.Ytjheanonklgbcaa
open Go.RowKit
set_option linter.unusedSimpArgs false
set_option linter.unusedVariables false
theorem s_DrawDataOfImage (A : Option Addr) (n c : Nat) (bs : List Int) (B : Nat) (w : World) (h : BytesAt w B A n c bs) (hB : B ≤ w.heap.size) :
    Calls Try.prog 35 #[.slice A n c] w (DrewInts w) := by
  go_enter Try.func35, Try.ntmps35
  go_wp2_with fail
  refine (s_l01From _ _ _ _ B _ h hB).mono ?_
  rintro e w1 ⟨g, rfl, S1, hg, hb⟩
  clear h
  go_wp2_with fail
  refine (s_l09DrawImage g B w.heap.size _ S1 hg).mono ?_
  rintro e w2 ⟨A2, n2, c2, xs, rfl, I2, b2⟩
  go_wp2
  go_ret
  exact ⟨_, _, _, _, rfl, I2, hb.trans b2⟩
theorem read_dmg {xs : List Int} (h : bytesOk xs = true) : (doC xs = 7 ∧ 0 < (dbL xs).length) ∨ (doC xs ≠ 7 ∧ (dbL xs).length = 0) := by
  unfold doC dbL
  rw [h]
  simp only [if_true]
  unfold dtC
  by_cases hd : dmgL xs (cutN 33 xs.length) = []
  · rw [if_pos hd, hd]
    refine .inr ⟨?_, rfl⟩
    split <;> decide
  · rw [if_neg hd]
    exact .inl ⟨rfl, List.length_pos_iff.2 hd⟩
theorem read_img {xs : List Int} (h : bytesOk xs = true) (h0 : doC xs = 0) : imC (doL xs) = 0 ∧ imR (doL xs) = xs := by
  have hC : doC xs = dtC xs := by simp [doC, h]
  have hL : doL xs = dtL xs := by simp [doL, h]
  rw [hC] at h0
  rw [hL, show dtL xs = datL xs (cutN 33 xs.length) by simp [dtL, h0]]
  unfold dtC at h0
  split at h0
  · split at h0
    · rename_i hh
      obtain ⟨h8, hi⟩ := hh
      have hm := datL_mem (byt_all h) (cutN 33 xs.length)
      generalize datL xs (cutN 33 xs.length) = D at *
      have hb : bytesOk D = true := by
        simp only [bytesOk, Bool.and_eq_true, decide_eq_true_eq]
        exact ⟨by omega, (allIn_iff _ 0 255).2 fun i hi => getD_mem hm i hi⟩
      have hI : imC D = 0 := by simp only [imC, hb, if_true]; rw [if_pos h8]
      exact ⟨hI, by simp only [imR, hI, if_true]; exact hi⟩
    · simp at h0
  · simp at h0
set_option maxHeartbeats 8000000 in
theorem w_FnImagesRead (a0 : Option Addr) (len0 cap0 : Nat) (z0 : List Int) (w : World) (w0 : ArgBytes w a0 len0 cap0 z0) :
    Calls Try.prog 9 #[.slice a0 len0 cap0] w fun e w' => e = .returned (.bool true) ∧ Below w.heap.size w w' := by
  by_cases hbig : 4096 < len0
  · clear w0
    have hb : decide ((4096 : Int) < len0) = true := by simp; omega
    go_enter Try.func9, Try.ntmps9
    go_wp2_with (go_at_call 26; refine (h_big _ _ _ _).mono ?_; rintro e w' ⟨rfl, rfl⟩)
    go_ret
    exact ⟨rfl, Below.refl _ _⟩
  · have hI := w0.2.2 (by omega)
    have hb : decide ((4096 : Int) < len0) = false := by simp; omega
    clear w0
    go_enter Try.func9, Try.ntmps9
    go_wp2_with (go_at_call 26; refine (h_big _ _ _ _).mono ?_; rintro e w' ⟨rfl, rfl⟩)
    refine (s_DrawDataOfImage _ _ _ _ _ _ hI (Nat.le_refl _)).mono ?_
    rintro e w1 ⟨A1, n1, c1, xs, rfl, I1, BW⟩
    have z1 := BW.size
    have hxn := I1.len
    subst hxn
    have hxs := I1.small
    clear hI hb hbig
    have HDI := Lib.hid (fun B W h hB => i_DataOfImage A1 xs.length c1 xs B W h hB)
    have HDS := Lib.hid (fun B W h hB => s_DataOfImage A1 xs.length c1 xs B W h hB)
    have HMI := Lib.hid (fun B W h hB => i_DamagedBlocks A1 xs.length c1 xs B W h hB)
    have HMS := Lib.hid (fun B W h hB => s_DamagedBlocks A1 xs.length c1 xs B W h hB)
    have hDl := doL_len xs
    have hMl := dbL_len xs
    have HR7 := Lib.hid (@read_dmg xs)
    have HRI := Lib.hid (@read_img xs)
    have hdb : dbC xs = 0 → bytesOk xs = true := by unfold dbC; split <;> simp_all
    have HDB := Lib.hid hdb
    clear hdb
    generalize doC xs = C at *
    generalize doL xs = D at *
    generalize dbC xs = E at *
    generalize dbL xs = M at *
    have hcd : (C != C) = false := by simp
    have hed : (E != E) = false := by simp
    have heD := eqL_refl D
    have heM := eqL_refl M
    go_wp2_with fail
    refine (HDI.out _ _ I1 (by omega)).mono ?_
    rintro e w2 ⟨u2, rfl, o2, b2⟩
    obtain ⟨A2, d2, rfl, I2⟩ := o2.ints hDl
    have z2 := b2.size
    replace I1 := I1.below b2
    replace BW := BW.trans (b2.mono z1)
    clear o2 b2 HDI
    go_wp2_with fail
    refine (HDS.out _ _ I1 (by omega)).mono ?_
    rintro e w3 ⟨u3', rfl, o3, b3⟩
    obtain ⟨A3, d3, rfl, I3⟩ := o3.ints hDl
    have z3 := b3.size
    replace I1 := I1.below' z2 b3
    replace I2 := I2.below b3
    replace BW := BW.trans (b3.mono (by omega))
    clear o3 b3 HDS
    go_wp2_with fail
    refine (HMI.out _ _ I1 (by omega)).mono ?_
    rintro e w4 ⟨u4', rfl, o4, b4⟩
    obtain ⟨A4, d4, rfl, I4⟩ := o4.ints hMl
    have z4 := b4.size
    replace I1 := I1.below' (by omega) b4
    replace I2 := I2.below' (by omega) b4
    replace I3 := I3.below b4
    replace BW := BW.trans (b4.mono (by omega))
    clear o4 b4 HMI
    go_wp2_with fail
    refine (HMS.out _ _ I1 (by omega)).mono ?_
    rintro e w5 ⟨u5', rfl, o5, b5⟩
    obtain ⟨A5, d5, rfl, I5⟩ := o5.ints hMl
    have z5 := b5.size
    replace I1 := I1.below' (by omega) b5
    replace I2 := I2.below' (by omega) b5
    replace I3 := I3.below' (by omega) b5
    replace I4 := I4.below b5
    replace BW := BW.trans (b5.mono (by omega))
    clear o5 b5 HMS
    go_wp2_with fail
    refine (h_likeInts _ _ _ _ _ _ _ _ _ _ _ I2 I3).mono ?_
    rintro e w6 ⟨rfl, m6, rfl⟩
    rw [heD]
    replace I1 := I1.drewN m6
    replace I2 := I2.drewN m6
    replace I4 := I4.drewN m6
    replace I5 := I5.drewN m6
    replace BW := below_drewN BW m6
    have z6 : w5.heap.size ≤ (w5.drewN m6).heap.size := Nat.le_refl _
    clear I3 heD
    generalize w5.drewN m6 = w6 at *
    go_wp2_with fail
    refine (h_likeInts _ _ _ _ _ _ _ _ _ _ _ I4 I5).mono ?_
    rintro e w7 ⟨rfl, m7, rfl⟩
    rw [heM]
    replace I1 := I1.drewN m7
    replace I2 := I2.drewN m7
    replace I5 := I5.drewN m7
    replace BW := below_drewN BW m7
    have z7 : w6.heap.size ≤ (w6.drewN m7).heap.size := Nat.le_refl _
    clear I4 heM
    generalize w6.drewN m7 = W at *
    by_cases hE : E = 0
    · subst hE
      have hbo := HDB.out rfl
      have h7 := HR7.out hbo
      have HRI2 := Lib.hid (fun h => HRI.out hbo h)
      have hn := bytesOk_len hbo
      have hBA := Lib.hid (fun k => (show baC xs k = (if 0 ≤ k ∧ 33 * k < (xs.length : Int) then 0 else 4) by simp [baC, hbo]))
      clear HDB HR7 HRI hbo
      have zW : w.heap.size ≤ W.heap.size := BW.size
      have hn' : (xs.length : Int) ≤ 1024 := by omega
      have o9 := lit_own W [] W.heap.size (Nat.le_refl _) (by simp)
      have B9 := (Below.refl W.heap.size W).alloc (Nat.le_refl _) (.cells #[] 2)
      go_wp2_with fail
      go_loopw [12, 13, 14, 15] (fun v i _ _ wr => ∃ k : Nat, k ≤ xs.length ∧ i = .int .i64 k ∧ IOwn wr W.heap.size v (xs.take (k * 33)) ∧ Below W.heap.size W wr) (fun _ i _ _ _ => xs.length + 1 - (intOf i).toNat)
      case atStart => exact ⟨0, by omega, rfl, by simpa using o9, B9⟩
      case round =>
        clear o9 B9
        obtain ⟨k, hk, rfl, O, Bk⟩ := hrel
        have zk := Bk.size
        have hk' : (k : Int) ≤ (xs.length : Int) := by omega
        have HBK := Lib.hid (i_BlockAt A1 xs.length c1 xs k _ wr (I1.below' (by omega) Bk) (by omega))
        have hbc := hBA.out (k : Int)
        have hbl := baL_len xs k
        by_cases h33 : 33 * k < xs.length
        · rw [if_pos (by omega)] at hbc
          have hbL : baL xs (k : Int) = cutL 33 xs k := by simp [baL, hbc]
          rw [hbc, hbL] at HBK
          have HT := Lib.hid (show xs.take ((k + 1) * 33) = xs.take (k * 33) ++ cutL 33 xs k by rw [Nat.add_mul, Nat.one_mul, List.take_add]; rfl)
          have hcl : (cutL 33 xs k).length ≤ 33 := by rw [cutL_len]; omega
          have htl : (xs.take (k * 33)).length ≤ 1024 := by rw [List.length_take]; omega
          have HLL := Lib.hid (And.intro hcl htl)
          generalize cutL 33 xs k = Y at *
          clear hbc hbL hbl hcl htl
          go_wp2_with (first
            | (go_at_call 16; refine HBK.out.mono ?_; rintro e w8 ⟨u8, rfl, o8, b8⟩; have z8 := b8.size; obtain ⟨A8, c8, rfl, I8⟩ := o8.ints (by have := HLL.out; omega); have O8 := O.below_ b8; have B8 := Bk.trans (b8.mono zk))
            | (at_builtin; refine wpList_app _ rfl _ _ 22 rfl W.heap.size Try.underlying22 int_info _ (xs.take (k * 33)) rfl O8 _ _ _ _ Y rfl I8 (by have := HLL.out; omega) (by omega) ?_; intro v9 w9 O9 g9 hb9; have B9 := B8.trans (app_below O8 g9 (by omega))))
          clear g9 hb9 O8 B8 I8 o8 b8 HBK
          go_wp2
          go_roundw
          case rel => exact ⟨k + 1, by omega, by go_num, by rw [HT.out]; exact O9, B9⟩
          case measure => simp [intOf]; omega
        · rw [if_neg (by omega)] at hbc
          have hbL : baL xs (k : Int) = [] := by simp [baL, hbc]
          rw [hbc, hbL] at HBK
          have htk : xs.take (k * 33) = xs := List.take_of_length_le (by omega)
          rw [htk] at O
          replace I1 := I1.below' (by omega) Bk
          replace I2 := I2.below' (by omega) Bk
          replace BW := BW.trans (Bk.mono zW)
          have hex := eqL_refl xs
          clear hbc hbL hbl htk Bk
          rcases h7 with ⟨hc7, hm7⟩ | ⟨hc7, hm7⟩
          · subst hc7
            have hm7' : (0 : Int) < (M.length : Int) := by omega
            have h77 : ((7 : Int) != 0) = true := by decide
            clear HRI2
            go_wp2_with (first
              | (go_at_call 16; refine HBK.out.mono ?_; rintro e w8 ⟨u8, rfl, o8, b8⟩; have z8 := b8.size; obtain ⟨A8, c8, rfl, -⟩ := o8.ints (by simp); have O8 := O.below_ b8; replace I1 := I1.below' (by omega) b8; replace I2 := I2.below' (by omega) b8; replace BW := BW.trans (b8.mono (by omega)); obtain ⟨A9, c9, e9, I9⟩ := O8.ints (by omega); subst e9))
            refine (h_likeInts _ _ _ _ _ _ _ _ _ _ _ I9 I1).mono ?_
            rintro e w10 ⟨rfl, m10, rfl⟩
            rw [hex]
            replace I1 := I1.drewN m10
            replace I2 := I2.drewN m10
            replace BW := below_drewN BW m10
            have z10 : w8.heap.size ≤ (w8.drewN m10).heap.size := Nat.le_refl _
            clear I9 O8 O o8 b8 HBK
            generalize w8.drewN m10 = w10 at *
            go_wp2
            go_ret
            exact ⟨rfl, BW⟩
          · have hm7' : (M.length : Int) ≤ 0 := by omega
            have hc7' : (C == 7) = false := by simpa using hc7
            clear hm7 hc7
            go_wp2_with (first
              | (go_at_call 16; refine HBK.out.mono ?_; rintro e w8 ⟨u8, rfl, o8, b8⟩; have z8 := b8.size; obtain ⟨A8, c8, rfl, -⟩ := o8.ints (by simp); have O8 := O.below_ b8; replace I1 := I1.below' (by omega) b8; replace I2 := I2.below' (by omega) b8; replace BW := BW.trans (b8.mono (by omega)); obtain ⟨A9, c9, e9, I9⟩ := O8.ints (by omega); subst e9))
            refine (h_likeInts _ _ _ _ _ _ _ _ _ _ _ I9 I1).mono ?_
            rintro e w10 ⟨rfl, m10, rfl⟩
            rw [hex]
            replace I1 := I1.drewN m10
            replace I2 := I2.drewN m10
            replace BW := below_drewN BW m10
            have z10 : w8.heap.size ≤ (w8.drewN m10).heap.size := Nat.le_refl _
            clear I9 O8 O o8 b8 HBK
            generalize w8.drewN m10 = w10 at *
            by_cases hC : C = 0
            · subst hC
              obtain ⟨r1, r2⟩ := HRI2.out rfl
              have HIM := Lib.hid (fun B W h hB => i_ImageOf A2 D.length d2 D B W h hB)
              rw [r1, r2] at HIM
              clear HRI2 r1 r2
              go_wp2_with fail
              refine (HIM.out _ _ I2 (by omega)).mono ?_
              rintro e w11 ⟨u11, rfl, o11, b11⟩
              obtain ⟨A11, d11, rfl, I11⟩ := o11.ints (by omega)
              replace I1 := I1.below' (by omega) b11
              replace BW := BW.trans (b11.mono (by omega))
              clear o11 b11
              go_wp2_with fail
              refine (h_likeInts _ _ _ _ _ _ _ _ _ _ _ I11 I1).mono ?_
              rintro e w12 ⟨rfl, m12, rfl⟩
              rw [hex]
              go_wp2
              go_ret
              exact ⟨rfl, below_drewN BW _⟩
            · have hf0 : (C != 0) = true := by simpa using hC
              clear HRI2
              go_wp2
              go_ret
              exact ⟨rfl, BW⟩
    · have hf0 : (E != 0) = true := by simpa using hE
      clear HDB HR7 HRI
      go_wp2
      go_ret
      exact ⟨rfl, BW⟩
end Go.Proofs.Ytjheanonklgbcaa

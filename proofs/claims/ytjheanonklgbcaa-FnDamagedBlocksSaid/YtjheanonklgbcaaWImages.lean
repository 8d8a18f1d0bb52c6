/- The walk of the law on images. -/
import Derived.Test.YtjheanonklgbcaaPImg
import Derived.Test.YtjheanonklgbcaaDrawBz
namespace Go.Proofs.Ytjheanonklgbcaa
open Go.RowKit
set_option linter.unusedSimpArgs false
set_option linter.unusedVariables false
theorem h_big (A : Option Addr) (n c : Nat) (w : World) :
    Calls Try.prog 26 #[.slice A n c] w fun e w' => e = .returned (.bool (decide ((4096 : Int) < n))) ∧ w = w' := by
  go_enter Try.func26, Try.ntmps26
  go_wp2
  go_ret
  exact ⟨rfl, rfl⟩
def DrewInts (w : World) (e : Ending) (w' : World) : Prop := ∃ (A : Option Addr) (n c : Nat) (xs : List Int), e = .returned (.slice A n c) ∧ IntsAt w' w'.heap.size A n c xs ∧ Below w.heap.size w w'
set_option maxHeartbeats 1000000 in
theorem s_DrawImageOf (A : Option Addr) (n c : Nat) (bs : List Int) (B : Nat) (w : World) (h : BytesAt w B A n c bs) (hB : B ≤ w.heap.size) :
    Calls Try.prog 27 #[.slice A n c] w (DrewInts w) := by
  go_enter Try.func27, Try.ntmps27
  go_wp2_with fail
  refine (s_l01From _ _ _ _ B _ h hB).mono ?_
  rintro e w1 ⟨g, rfl, S1, hg, hb⟩
  have z1 := hb.size
  clear h
  go_wp2_with fail
  refine (s_l01Next g B 20 _ S1).mono ?_
  rintro e w2 ⟨r, rfl, _, _, S2, g2⟩
  have B2 := hb.trans (grown_below g2 hb.size (fun q hq => by injection hq with hq; omega))
  have z2 := g2.size
  clear S1 g2 hb
  cases hr : (r == 0)
  · go_wp2_with fail
    refine (s_l01DrawBytes g B 70 _ S2 (by omega) (by omega)).mono ?_
    rintro e w4 ⟨v4, ys, rfl, hy, o4, S4, g4⟩
    have B4 := B2.trans (grown_below g4 B2.size (fun q hq => by injection hq with hq; omega))
    obtain ⟨A4, c4, rfl, I4⟩ := o4.ints (by omega)
    go_wp2
    go_ret
    exact ⟨_, _, _, _, rfl, I4, B4⟩
  · go_wp2_with fail
    refine (s_l01Next g B 3 _ S2).mono ?_
    rintro e w3 ⟨q, rfl, q0, q1, S3, g3⟩
    have B3 := B2.trans (grown_below g3 B2.size (fun q hq => by injection hq with hq; omega))
    have z3 := g3.size
    obtain ⟨p, hp, hpe⟩ : ∃ p : Nat, p ≤ 1000 ∧ 867 + q = (p : Int) := ⟨(867 + q).toNat, by omega, by omega⟩
    have hmk := make_run p (by omega)
    have om : IOwn (w3.alloc (.cells ((List.replicate p 0).map (Value.int .i64)).toArray 2)) w3.heap.size (.slice (some ⟨w3.heap.size, 0, none⟩) (List.replicate p (0 : Int)).length p) (List.replicate p (0 : Int)) := by
      rw [List.length_replicate]; exact own_of_row p (by omega) (Nat.le_refl _) (heap_alloc_new w3 _)
    have hlen : (List.replicate p (0 : Int)).length = p := List.length_replicate
    have BM := B3.alloc B3.size (.cells ((List.replicate p 0).map (Value.int .i64)).toArray 2)
    obtain ⟨O, hO⟩ : ∃ O, O = Obj.cells ((List.replicate p 0).map (Value.int .i64)).toArray 2 := ⟨_, rfl⟩
    rw [← hO] at hmk om BM
    rw [hlen] at om
    obtain ⟨A9, c9, e9, I9⟩ := om.ints (by rw [hlen]; omega)
    rw [hlen] at e9 I9
    injection e9 with e91 e92 e93
    subst e91 e93
    have HI9 := Lib.hid I9
    have HBM := Lib.hid BM
    clear hO hlen om I9 BM S2 S3 g3 B2 B3 e92 q1
    go_wp2
    go_ret
    exact ⟨_, _, _, _, rfl, HI9.out, HBM.out⟩
theorem i_ImageSize (n : Nat) (w : World) (h : n ≤ 868) : Calls Try.prog 29 #[.int .i64 (n : Int)] w fun e w' => e = .returned (.tuple #[.int .i64 ((n + 5 * cutN 28 n : Nat) : Int), .int .i64 0]) ∧ w = w' := by
  have h' : (n : Int) ≤ 868 := by omega
  by_cases hn : n = 0
  · subst hn
    go_enter Try.func29, Try.ntmps29
    go_wp2_with (go_at_call 65; first | (refine (i_within_yes _ _ _ _ ?_ ?_).mono ?_; omega; omega; rintro e w' ⟨rfl, rfl⟩) | (refine (i_within_no _ _ _ _ ?_).mono ?_; omega; rintro e w' ⟨rfl, rfl⟩))
    all_goals go_ret2
    all_goals exact ⟨rfl, rfl⟩
  · have hq : (1 : Int) ≤ ((n : Int) + 28 - 1) / 28 := by omega
    have hq2 : ((n : Int) + 28 - 1) / 28 ≤ 40 := by omega
    have hv : ((n + 5 * cutN 28 n : Nat) : Int) = (n : Int) + 5 * (((n : Int) + 28 - 1) / 28) := by unfold cutN; rw [if_neg hn]; omega
    rw [hv]
    clear hv
    go_enter Try.func29, Try.ntmps29
    go_wp2_with (go_at_call 65; first | (refine (i_within_yes _ _ _ _ ?_ ?_).mono ?_; omega; omega; rintro e w' ⟨rfl, rfl⟩) | (refine (i_within_no _ _ _ _ ?_).mono ?_; omega; rintro e w' ⟨rfl, rfl⟩))
    all_goals go_ret2
    all_goals first
      | exact ⟨rfl, rfl⟩
      | (have e : ((n : Int) + 28 - 1) / 28 = 1 := by omega
         rw [e]
         exact ⟨rfl, rfl⟩)
set_option maxHeartbeats 4000000 in
theorem w_FnImages (a0 : Option Addr) (len0 cap0 : Nat) (z0 : List Int) (w : World) (w0 : ArgBytes w a0 len0 cap0 z0) :
    Calls Try.prog 7 #[.slice a0 len0 cap0] w fun e w' => e = .returned (.bool true) ∧ Below w.heap.size w w' := by
  by_cases hbig : 4096 < len0
  · clear w0
    have hb : decide ((4096 : Int) < len0) = true := by simp; omega
    go_enter Try.func7, Try.ntmps7
    go_wp2_with (go_at_call 26; refine (h_big _ _ _ _).mono ?_; rintro e w' ⟨rfl, rfl⟩)
    go_ret
    exact ⟨rfl, Below.refl _ _⟩
  · have hI := w0.2.2 (by omega)
    have hb : decide ((4096 : Int) < len0) = false := by simp; omega
    clear w0
    go_enter Try.func7, Try.ntmps7
    go_wp2_with (go_at_call 26; refine (h_big _ _ _ _).mono ?_; rintro e w' ⟨rfl, rfl⟩)
    refine (s_DrawImageOf _ _ _ _ _ _ hI (Nat.le_refl _)).mono ?_
    rintro e w1 ⟨A1, n1, c1, xs, rfl, I1, BW⟩
    have z1 := BW.size
    have hxn := I1.len
    subst hxn
    clear hI hb hbig
    have HI := Lib.hid (fun B W h hB => i_ImageOf A1 xs.length c1 xs B W h hB)
    have HS := Lib.hid (fun B W h hB => s_ImageOf A1 xs.length c1 xs B W h hB)
    have HA := Lib.hid (@img_all xs)
    have hRl := imR_len xs
    generalize imC xs = C at *
    generalize imR xs = R at *
    have hcd : (C != C) = false := by simp
    have he := eqL_refl R
    go_wp2_with fail
    refine (HI.out _ _ I1 (by omega)).mono ?_
    rintro e w2 ⟨u2, rfl, o2, b2⟩
    obtain ⟨A2, d2, rfl, I2⟩ := o2.ints hRl
    have z2 := b2.size
    replace I1 := I1.below b2
    replace BW := BW.trans (b2.mono z1)
    clear o2 b2 HI
    go_wp2_with fail
    refine (HS.out _ _ I1 (by omega)).mono ?_
    rintro e w3 ⟨u3, rfl, o3, b3⟩
    obtain ⟨A3, d3, rfl, I3⟩ := o3.ints hRl
    have z3 := b3.size
    replace I1 := I1.below' z2 b3
    replace I2 := I2.below b3
    replace BW := BW.trans (b3.mono (by omega))
    clear o3 b3 HS
    go_wp2_with fail
    refine (h_likeInts _ _ _ _ _ _ _ _ _ _ _ I2 I3).mono ?_
    rintro e w4 ⟨rfl, m4, rfl⟩
    rw [he]
    replace I1 := I1.drewN m4
    replace I2 := I2.drewN m4
    replace BW := below_drewN BW m4
    have z4 : (w3.drewN m4).heap.size = w3.heap.size := rfl
    clear I3 he
    generalize w3.drewN m4 = W at *
    by_cases hC : C = 0
    · subst hC
      obtain ⟨p1, p2, p3, p4, p5, p6⟩ := HA.out rfl
      clear HA
      have HD := Lib.hid (fun B W h hB => i_DataOfImage A2 R.length d2 R B W h hB)
      have HM := Lib.hid (fun B W h hB => i_DamagedBlocks A2 R.length d2 R B W h hB)
      have HZ := Lib.hid (fun W => i_ImageSize xs.length W p6)
      rw [p1, p2] at HD
      rw [p3, p4] at HM
      rw [← p5] at HZ
      have hxl := I1.small
      clear p1 p2 p3 p4 p5 p6
      have hll : ((R.length : Int) == (R.length : Int)) = true := by simp
      go_wp2_with fail
      refine (HD.out _ _ I2 (by omega)).mono ?_
      rintro e w5 ⟨u5, rfl, o5, b5⟩
      obtain ⟨A5, d5, rfl, I5⟩ := o5.ints hxl
      have z5 := b5.size
      replace I1 := I1.below' (by omega) b5
      replace I2 := I2.below' (by omega) b5
      replace BW := BW.trans (b5.mono (by omega))
      clear o5 b5 HD
      go_wp2_with (first
        | (go_at_call 29; refine (HZ.out _).mono ?_; rintro e w' ⟨rfl, rfl⟩)
        | (go_at_call 23; refine (HM.out _ _ I2 (by omega)).mono ?_; rintro e w6 ⟨u6, rfl, o6, b6⟩; obtain ⟨A6, d6, rfl, -⟩ := o6.ints (by simp); replace I1 := I1.below' (by omega) b6; replace I5 := I5.below b6; replace BW := BW.trans (b6.mono (by omega)); clear o6 b6))
      refine (h_likeInts _ _ _ _ _ _ _ _ _ _ _ I5 I1).mono ?_
      rintro e w7 ⟨rfl, m7, rfl⟩
      rw [eqL_refl xs]
      go_wp2
      go_ret
      exact ⟨rfl, below_drewN BW _⟩
    · have hf0 : (C != 0) = true := by simpa using hC
      clear HA
      go_wp2
      go_ret
      exact ⟨rfl, BW⟩
end Go.Proofs.Ytjheanonklgbcaa

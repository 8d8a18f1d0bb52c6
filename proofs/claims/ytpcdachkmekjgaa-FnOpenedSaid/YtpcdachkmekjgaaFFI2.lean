/- Contracts: the frame out of a body, the program's. -/
import Derived.Test.YtpcdachkmekjgaaFFI
import Derived.Deep.RegionHeld3
import Derived.BigRegion
namespace Go.Proofs.Ytpcdachkmekjgaa
open Go.RowKit
set_option linter.unusedSimpArgs false
set_option linter.unusedVariables false
set_option maxHeartbeats 4000000 in
theorem i_ff_1 (ad : Addr) (n c : Nat) (xs : List Int) (B : Nat) (w : World) (h : IntsAt w B (some ad) (n + 9) (c + 9) xs) (hB : B ≤ w.heap.size) (hbm : ∀ x ∈ xs, 0 ≤ x ∧ x ≤ 255) (hn2 : n + 9 ≤ 1024) (hk : hdK xs = 1) :
    Calls Try.prog 59 #[.slice (some ad) (n + 9) (c + 9)] w (FFQ w xs) := by
  obtain ⟨ad', e, hab, hx⟩ := h.at_ 0 (by omega)
  cases e
  have hle := h.le
  have hlen := h.len
  have hcm : c + 9 ≤ 9223372036854775807 := Nat.le_trans h.cap (by unfold maxLen; omega)
  have R0 := heap_alloc_new w (.cells #[.int .i64 0, .int .i64 0, .int .i64 0, .int .i64 0, .int .i64 0, .int .i64 0, .int .i64 0, .slice none 0 0] 32)
  have B0 := (Below.refl w.heap.size w).alloc (Nat.le_refl _) (.cells #[.int .i64 0, .int .i64 0, .int .i64 0, .int .i64 0, .int .i64 0, .int .i64 0, .int .i64 0, .slice none 0 0] 32)
  have I0 := h.alloc hB (.cells #[.int .i64 0, .int .i64 0, .int .i64 0, .int .i64 0, .int .i64 0, .int .i64 0, .int .i64 0, .slice none 0 0] 32)
  obtain ⟨x0, x1⟩ := getD_of_mem hbm 0 (by omega)
  have hK : xs.getD 0 0 / 64 = 1 := hk
  have hQ : hdQ xs = xs.getD 0 0 / 8 % 8 := rfl
  obtain ⟨D, hDe⟩ : ∃ D : List Int, [] = D := ⟨_, rfl⟩
  have hD : hdD xs = D := by rw [← hDe]; unfold hdD; rw [if_neg (by omega), if_neg (by omega)]
  have hDl : D.length = 0 := by rw [← hDe]; rfl
  have HDe := Lib.hid hDe; have HDl := Lib.hid hDl; clear hDe hDl
  have hk0 : hdK xs ≠ 0 := by omega
  obtain ⟨ys, hys⟩ : ∃ ys, (xs.drop 1).take 8 = ys := ⟨_, rfl⟩
  have hyl : ys.length = 8 := by rw [← hys, List.length_take, List.length_drop]; omega
  have hyb : ∀ k, k < 8 → 0 ≤ ys.getD k 0 ∧ ys.getD k 0 ≤ 255 := fun k hk => by rw [← hys]; exact part_bytes hbm 1 8 k (by rw [hys, hyl]; exact hk)
  obtain ⟨bs, hbs⟩ : ∃ bs, bitsL ys = bs := ⟨_, rfl⟩
  have hbl : bs.length = 64 := by rw [← hbs, bitsL_len, hyl]
  have hb01 : bit01 bs := by rw [← hbs]; exact bitsL_mem _
  have hST : ∀ a m, stF xs a m = ((partN bs a m : Nat) : Int) := fun a m => by rw [← hbs, ← hys]; exact stF_part hk0 a m
  have hfb := fbOk_of (ne_nil_of_len (xs := xs) (by omega)) (.inr (by omega))
  rw [hST, hST, hST, hST, hST, hQ, hD] at hfb
  have HYS := Lib.hid hys; have HYL := Lib.hid hyl; have HYB := Lib.hid hyb; have HBS := Lib.hid hbs; have HBL := Lib.hid hbl; have HB01 := Lib.hid hb01
  clear hys hyl hyb hbs hbl hb01 hk0
  generalize hX : xs.getD 0 0 = x at hx x0 x1 hK hQ hfb
  rw [show hdK xs = 1 from hk] at hfb
  have Hfb := Lib.hid hfb; have HQ := Lib.hid hQ; have HD := Lib.hid hD; have HST := Lib.hid hST; have HK := Lib.hid hk
  have HX := Lib.hid hX
  have HL := Lib.hid hlen; have HM := Lib.hid hbm
  clear hfb hQ hD hST hk hX hlen h hbm
  go_enter Try.func59, Try.ntmps59
  go_upto_region 1 with fail
  generalize hg : w.heap.size = g at *
  generalize World.alloc _ _ = W at *
  have zW := Below.lt_of' R0
  have hl1 : ad.block < W.heap.size := by omega
  have hl2 : ad.block ≠ W.heap.size := by omega
  have hx' : W.cell? ad = some (.int .i64 x) := by
    obtain ⟨ad', e, _, hx2⟩ := I0.at_ 0 (by omega)
    cases e
    rw [HX.out] at hx2
    simpa [Addr.add] using hx2
  clear hx
  go_upto_region 3 with fail
  go_region
  obtain ⟨R1, P1, B1, I1, z1⟩ := ff_open (t' := 32) (f := #[.int .i64 1, .int .i64 (x / 8 % 8), .int .i64 0, .int .i64 0, .int .i64 0, .int .i64 0, .int .i64 0, .slice none 0 0]) R0 B0 I0 hB
  generalize World.drew _ = Y at *
  generalize hg1 : W.heap.size = g1 at *
  clear R0 B0 I0 hx' hl2
  have ng : g ≠ g1 := by omega
  obtain ⟨c0, c1, c2, c3, c4, c5, c6, c7⟩ := fr_cells P1
  obtain ⟨f0, f1, f2, f3, f4, f5, f6, f7⟩ := fr_frozen P1
  have I8 : IntsAt Y B (some ⟨ad.block, ad.off + 1, none⟩) 8 (c + 8) ys := by
    have := I1.cut 1 9 (by omega) (by omega)
    rw [if_neg (by omega), HYS.out] at this
    exact this
  have e8 : (8 : Int) ≤ (((c + 8 : Nat)) : Int) := by omega
  go_upto_region 8 with (first
    | (go_at_call 73; with_reducible refine (i_hasS_yes 1 _ (by decide)).mono ?_; rintro e w' ⟨rfl, rfl⟩)
    | (go_at_call 90; refine (i_toBits _ _ _ ys _ _ I8 (by omega) HYB.out (by omega)).mono ?_; rintro e Y2 ⟨u2, rfl, o2, b2⟩; rw [HBS.out] at o2; obtain ⟨A2, cc2, rfl, i2⟩ := o2.ints (by have := HBL.out; omega); have z2 := b2.size; have R2 := (b2.block g (by omega)).trans R1; have P2 := (b2.block g1 (by omega)).trans P1; have B2 := B1.trans (b2.mono (by omega)); have I2 := I1.below' (by omega) b2)
    | (go_at_call 104; refine (i_stateFrom _ _ _ bs _ _ i2 (Nat.le_refl _) HB01.out HBL.out).mono ?_; rintro e Y3 ⟨rfl, b3⟩; have z3 := b3.size; have R3 := (b3.block g (by omega)).trans R2; have P3 := (b3.block g1 (by omega)).trans P2; have B3 := B2.trans (b3.mono (by omega)); have I3 := I2.below' (by omega) b3; obtain ⟨c0, c1, c2, c3, c4, c5, c6, c7⟩ := fr_cells P3; obtain ⟨f0, f1, f2, f3, f4, f5, f6, f7⟩ := fr_frozen P3))
  have P4 := five_heap8 (v2 := .int .i64 (partN bs 0 16 : Nat)) (v3 := .int .i64 (partN bs 16 4 : Nat)) (v4 := .int .i64 (partN bs 20 4 : Nat)) (v5 := .int .i64 (partN bs 24 8 : Nat)) (v6 := .int .i64 (partN bs 32 32 : Nat)) P3
  have R4 := (five_other8 (w := Y3) (g := g1) (h := g) (v2 := .int .i64 (partN bs 0 16 : Nat)) (v3 := .int .i64 (partN bs 16 4 : Nat)) (v4 := .int .i64 (partN bs 20 4 : Nat)) (v5 := .int .i64 (partN bs 24 8 : Nat)) (v6 := .int .i64 (partN bs 32 32 : Nat)) ng).trans R3
  have B4 := below_five8 (g := g1) (v2 := .int .i64 (partN bs 0 16 : Nat)) (v3 := .int .i64 (partN bs 16 4 : Nat)) (v4 := .int .i64 (partN bs 20 4 : Nat)) (v5 := .int .i64 (partN bs 24 8 : Nat)) (v6 := .int .i64 (partN bs 32 32 : Nat)) B3 (by omega)
  have I4 := I3.five8 (g := g1) (v2 := .int .i64 (partN bs 0 16 : Nat)) (v3 := .int .i64 (partN bs 16 4 : Nat)) (v4 := .int .i64 (partN bs 20 4 : Nat)) (v5 := .int .i64 (partN bs 24 8 : Nat)) (v6 := .int .i64 (partN bs 32 32 : Nat)) (by omega)
  clear c0 c1 c2 c3 c4 c5 c6 c7 f0 f1 f2 f3 f4 f5 f6 f7 R1 P1 B1 I1 R2 P2 B2 I2 R3 P3 B3 I3 I8 i2 o2 HB01 HBL HBS HYB HYL HYS
  revert P4 R4 B4 I4
  generalize World.setCell _ _ _ = Y4
  intro P1 R1 B1 I1
  have z1 := Below.lt_of' P1
  obtain ⟨c0, c1, c2, c3, c4, c5, c6, c7⟩ := fr_cells P1
  obtain ⟨f0, f1, f2, f3, f4, f5, f6, f7⟩ := fr_frozen P1
  have ID : IntsAt Y4 0 none 0 0 D := by rw [← HDe.out]; exact IntsAt.nil _ _ _ _ (by unfold maxLen; omega)
  have O3 : IOwn Y4 (g1 + 1) (.slice none 0 0) D := by rw [← HDe.out]; exact IOwn.nil _ _
  have P3 := P1; have R3 := R1; have B3 := B1; have I3 := I1
  clear c0 c1 c2 c3 c4 c5 c6 c7 f0 f1 f2 f3 f4 f5 f6 f7 P1 R1 B1 I1
  obtain ⟨c0, c1, c2, c3, c4, c5, c6, c7⟩ := fr_cells P3
  go_upto_region 11 with (first
    | (go_at_call 97; with_reducible refine (i_hasD_no 1 _ (by decide)).mono ?_; rintro e w' ⟨rfl, rfl⟩)
    | fail)
  all_goals (generalize hZ : Y4 = Z at *)
  all_goals clear hZ c0 c1 c2 c3 c4 c5 c6 c7
  all_goals
    have zZ := Below.lt_of' P3
    have CI := i_IsFrame 1 (x / 8 % 8) ((partN bs 0 16 : Nat)) ((partN bs 16 4 : Nat)) ((partN bs 20 4 : Nat)) ((partN bs 24 8 : Nat)) ((partN bs 32 32 : Nat)) none 0 0 D _ Z ID ((by omega))
    have HF0 := Hfb.out
    obtain ⟨d0, d1, d2, d3, d4, d5, d6, d7⟩ := fr_cells P3
    cases hf : frOk 1 (x / 8 % 8) ((partN bs 0 16 : Nat)) ((partN bs 16 4 : Nat)) ((partN bs 20 4 : Nat)) ((partN bs 24 8 : Nat)) ((partN bs 32 32 : Nat)) D
    · rw [hf] at CI HF0
      have HF := Lib.hid (HF0.trans (Bool.false_and _))
      clear HF0 Hfb
      go_wp2_with (first
        | (go_at_call 39; refine CI.mono ?_; rintro e Z5 ⟨rfl, b5⟩; have R5 := (b5.block g (by omega)).trans R3; have B5 := B3.trans (b5.mono (by omega)); obtain ⟨c0, c1, c2', c3, c4, c5, c6, c7⟩ := fr_cells R5; obtain ⟨f0, f1, f2, f3, f4, f5, f6, f7⟩ := fr_frozen R5)
        | fail)
      all_goals
        have RR := eight_heap (v0 := .int .i64 0) (v1 := .int .i64 0) (v2 := .int .i64 0) (v3 := .int .i64 0) (v4 := .int .i64 0) (v5 := .int .i64 0) (v6 := .int .i64 0) (v7 := .slice none 0 0) R5
        have BB := below_eight (v0 := .int .i64 0) (v1 := .int .i64 0) (v2 := .int .i64 0) (v3 := .int .i64 0) (v4 := .int .i64 0) (v5 := .int .i64 0) (v6 := .int .i64 0) (v7 := .slice none 0 0) B5 (Nat.le_refl g)
        clear c0 c1 c2' c3 c4 c5 c6 c7 f0 f1 f2 f3 f4 f5 f6 f7 R5 B5
        revert RR BB
        generalize World.setCell _ _ _ = Y9
        intro RR BB
        obtain ⟨e0, e1, e2, e3, e4, e5, e6, e7⟩ := fr_cells RR
        go_wp2
        exact bodyPost_ret (v := .tuple #[.agg #[.int .i64 0, .int .i64 0, .int .i64 0, .int .i64 0, .int .i64 0, .int .i64 0, .int .i64 0, .slice none 0 0], .bool false]) (by simp [results, Try.results59, go_sem, e0, e1, e2, e3, e4, e5, e6, e7]) rfl ⟨0, 0, 0, 0, 0, 0, 0, none, 0, 0, by rw [HF.out], (fun h => by rw [HF.out] at h; cases h), by rw [hg]; exact BB⟩
    · rw [hf, Bool.true_and] at HF0
      rw [hf] at CI
      have CB := fun W' hI' hB' => i_body 1 (x / 8 % 8) ((partN bs 0 16 : Nat)) ((partN bs 16 4 : Nat)) ((partN bs 20 4 : Nat)) ((partN bs 24 8 : Nat)) ((partN bs 32 32 : Nat)) none 0 0 D 0 W' hI' hB' hf
      have hbs := body_small hf
      generalize hLe : bodyL 1 (x / 8 % 8) ((partN bs 0 16 : Nat)) ((partN bs 16 4 : Nat)) ((partN bs 20 4 : Nat)) ((partN bs 24 8 : Nat)) ((partN bs 32 32 : Nat)) D = L at *
      clear hLe
      cases he : eqL L xs
      · rw [he] at HF0
        have HF := Lib.hid HF0
        clear HF0 Hfb
        go_wp2_with (first
          | (go_at_call 39; refine CI.mono ?_; rintro e Z5 ⟨rfl, b5⟩; have z5 := b5.size; have R5 := (b5.block g (by omega)).trans R3; have P5 := (b5.block g1 (by omega)).trans P3; have B5 := B3.trans (b5.mono (by omega)); have ID5 := ID.below' ((by omega)) b5; have I5 := I3.below' (by omega) b5; obtain ⟨d0, d1, d2, d3, d4, d5, d6, d7⟩ := fr_cells P5)
          | (go_at_call 54; refine (CB _ ID5 ((by omega))).mono ?_; rintro e Z6 ⟨u6, rfl, o6, b6⟩; obtain ⟨A6, cc6, rfl, i6⟩ := o6.ints (by omega); have R6 := (b6.block g (by omega)).trans R5; have B6 := B5.trans (b6.mono (by omega)); have I6 := I5.below' (by omega) b6)
          | (go_at_call 71; refine (l_Equal _ _ _ _ _ _ L xs _ _ _ i6 I6).mono ?_; rintro e Z7 ⟨rfl, m7, rfl⟩; have R7 : (Z6.drewN m7).heap[g]? = _ := R6; have B7 := below_drewN B6 m7; obtain ⟨c0, c1, c2', c3, c4, c5, c6, c7⟩ := fr_cells R7; obtain ⟨f0, f1, f2, f3, f4, f5, f6, f7⟩ := fr_frozen R7)
          | fail)
        all_goals
          have RR := eight_heap (v0 := .int .i64 0) (v1 := .int .i64 0) (v2 := .int .i64 0) (v3 := .int .i64 0) (v4 := .int .i64 0) (v5 := .int .i64 0) (v6 := .int .i64 0) (v7 := .slice none 0 0) R7
          have BB := below_eight (v0 := .int .i64 0) (v1 := .int .i64 0) (v2 := .int .i64 0) (v3 := .int .i64 0) (v4 := .int .i64 0) (v5 := .int .i64 0) (v6 := .int .i64 0) (v7 := .slice none 0 0) B7 (Nat.le_refl g)
          clear c0 c1 c2' c3 c4 c5 c6 c7 f0 f1 f2 f3 f4 f5 f6 f7 R7 B7
          revert RR BB
          generalize World.setCell _ _ _ = Y9
          intro RR BB
          obtain ⟨e0, e1, e2, e3, e4, e5, e6, e7⟩ := fr_cells RR
          go_wp2
          exact bodyPost_ret (v := .tuple #[.agg #[.int .i64 0, .int .i64 0, .int .i64 0, .int .i64 0, .int .i64 0, .int .i64 0, .int .i64 0, .slice none 0 0], .bool false]) (by simp [results, Try.results59, go_sem, e0, e1, e2, e3, e4, e5, e6, e7]) rfl ⟨0, 0, 0, 0, 0, 0, 0, none, 0, 0, by rw [HF.out], (fun h => by rw [HF.out] at h; cases h), by rw [hg]; exact BB⟩
      · rw [he] at HF0
        have HF := Lib.hid HF0
        clear HF0 Hfb
        go_wp2_with (first
          | (go_at_call 39; refine CI.mono ?_; rintro e Z5 ⟨rfl, b5⟩; have z5 := b5.size; have R5 := (b5.block g (by omega)).trans R3; have P5 := (b5.block g1 (by omega)).trans P3; have B5 := B3.trans (b5.mono (by omega)); have ID5 := ID.below' ((by omega)) b5; have I5 := I3.below' (by omega) b5; have O5 := O3.below_ b5; obtain ⟨d0, d1, d2, d3, d4, d5, d6, d7⟩ := fr_cells P5)
          | (go_at_call 54; refine (CB _ ID5 ((by omega))).mono ?_; rintro e Z6 ⟨u6, rfl, o6, b6⟩; obtain ⟨A6, cc6, rfl, i6⟩ := o6.ints (by omega); have R6 := (b6.block g (by omega)).trans R5; have P6 := (b6.block g1 (by omega)).trans P5; have B6 := B5.trans (b6.mono (by omega)); have I6 := I5.below' (by omega) b6; have O6 := O5.below_ b6)
          | (go_at_call 71; refine (l_Equal _ _ _ _ _ _ L xs _ _ _ i6 I6).mono ?_; rintro e Z7 ⟨rfl, m7, rfl⟩; have R7 : (Z6.drewN m7).heap[g]? = _ := R6; have P7 : (Z6.drewN m7).heap[g1]? = _ := P6; have B7 := below_drewN B6 m7; have O7 := O6.drewN m7; obtain ⟨c0, c1, c2', c3, c4, c5, c6, c7⟩ := fr_cells R7; obtain ⟨f0, f1, f2, f3, f4, f5, f6, f7⟩ := fr_frozen R7; obtain ⟨d0, d1, d2, d3, d4, d5, d6, d7⟩ := fr_cells P7)
          | fail)
        all_goals
          have RR := eight_heap (v0 := .int .i64 1) (v1 := .int .i64 (x / 8 % 8)) (v2 := .int .i64 (partN bs 0 16 : Nat)) (v3 := .int .i64 (partN bs 16 4 : Nat)) (v4 := .int .i64 (partN bs 20 4 : Nat)) (v5 := .int .i64 (partN bs 24 8 : Nat)) (v6 := .int .i64 (partN bs 32 32 : Nat)) (v7 := .slice none 0 0) R7
          have BB := below_eight (v0 := .int .i64 1) (v1 := .int .i64 (x / 8 % 8)) (v2 := .int .i64 (partN bs 0 16 : Nat)) (v3 := .int .i64 (partN bs 16 4 : Nat)) (v4 := .int .i64 (partN bs 20 4 : Nat)) (v5 := .int .i64 (partN bs 24 8 : Nat)) (v6 := .int .i64 (partN bs 32 32 : Nat)) (v7 := .slice none 0 0) B7 (Nat.le_refl g)
          have OO := O7.eight (g := g) (by omega) (.int .i64 1) (.int .i64 (x / 8 % 8)) (.int .i64 (partN bs 0 16 : Nat)) (.int .i64 (partN bs 16 4 : Nat)) (.int .i64 (partN bs 20 4 : Nat)) (.int .i64 (partN bs 24 8 : Nat)) (.int .i64 (partN bs 32 32 : Nat)) (.slice none 0 0)
          clear c0 c1 c2' c3 c4 c5 c6 c7 f0 f1 f2 f3 f4 f5 f6 f7 R7 B7
          revert RR BB OO
          generalize World.setCell _ _ _ = Y9
          intro RR BB OO
          obtain ⟨e0, e1, e2, e3, e4, e5, e6, e7⟩ := fr_cells RR
          go_wp2
          exact bodyPost_ret (v := .tuple #[.agg #[.int .i64 1, .int .i64 (x / 8 % 8), .int .i64 (partN bs 0 16 : Nat), .int .i64 (partN bs 16 4 : Nat), .int .i64 (partN bs 20 4 : Nat), .int .i64 (partN bs 24 8 : Nat), .int .i64 (partN bs 32 32 : Nat), .slice none 0 0], .bool true]) (by simp [results, Try.results59, go_sem, e0, e1, e2, e3, e4, e5, e6, e7]) rfl ⟨1, x / 8 % 8, (partN bs 0 16 : Nat), (partN bs 16 4 : Nat), (partN bs 20 4 : Nat), (partN bs 24 8 : Nat), (partN bs 32 32 : Nat), none, 0, 0, by rw [HF.out], fun _ => ⟨HK.out.symm, HQ.out.symm, (HST.out _ _).symm, (HST.out _ _).symm, (HST.out _ _).symm, (HST.out _ _).symm, (HST.out _ _).symm, by rw [HD.out, hg]; exact OO.less (by omega)⟩, by rw [hg]; exact BB⟩
set_option maxHeartbeats 4000000 in
theorem i_ff_3 (ad : Addr) (n c : Nat) (xs : List Int) (B : Nat) (w : World) (h : IntsAt w B (some ad) (n + 9) (c + 9) xs) (hB : B ≤ w.heap.size) (hbm : ∀ x ∈ xs, 0 ≤ x ∧ x ≤ 255) (hn2 : n + 9 ≤ 1024) (hk : hdK xs = 3) :
    Calls Try.prog 59 #[.slice (some ad) (n + 9) (c + 9)] w (FFQ w xs) := by
  obtain ⟨ad', e, hab, hx⟩ := h.at_ 0 (by omega)
  cases e
  have hle := h.le
  have hlen := h.len
  have hcm : c + 9 ≤ 9223372036854775807 := Nat.le_trans h.cap (by unfold maxLen; omega)
  have R0 := heap_alloc_new w (.cells #[.int .i64 0, .int .i64 0, .int .i64 0, .int .i64 0, .int .i64 0, .int .i64 0, .int .i64 0, .slice none 0 0] 32)
  have B0 := (Below.refl w.heap.size w).alloc (Nat.le_refl _) (.cells #[.int .i64 0, .int .i64 0, .int .i64 0, .int .i64 0, .int .i64 0, .int .i64 0, .int .i64 0, .slice none 0 0] 32)
  have I0 := h.alloc hB (.cells #[.int .i64 0, .int .i64 0, .int .i64 0, .int .i64 0, .int .i64 0, .int .i64 0, .int .i64 0, .slice none 0 0] 32)
  obtain ⟨x0, x1⟩ := getD_of_mem hbm 0 (by omega)
  have hK : xs.getD 0 0 / 64 = 3 := hk
  have hQ : hdQ xs = xs.getD 0 0 / 8 % 8 := rfl
  obtain ⟨D, hDe⟩ : ∃ D : List Int, [] = D := ⟨_, rfl⟩
  have hD : hdD xs = D := by rw [← hDe]; unfold hdD; rw [if_neg (by omega), if_neg (by omega)]
  have hDl : D.length = 0 := by rw [← hDe]; rfl
  have HDe := Lib.hid hDe; have HDl := Lib.hid hDl; clear hDe hDl
  have hk0 : hdK xs ≠ 0 := by omega
  obtain ⟨ys, hys⟩ : ∃ ys, (xs.drop 1).take 8 = ys := ⟨_, rfl⟩
  have hyl : ys.length = 8 := by rw [← hys, List.length_take, List.length_drop]; omega
  have hyb : ∀ k, k < 8 → 0 ≤ ys.getD k 0 ∧ ys.getD k 0 ≤ 255 := fun k hk => by rw [← hys]; exact part_bytes hbm 1 8 k (by rw [hys, hyl]; exact hk)
  obtain ⟨bs, hbs⟩ : ∃ bs, bitsL ys = bs := ⟨_, rfl⟩
  have hbl : bs.length = 64 := by rw [← hbs, bitsL_len, hyl]
  have hb01 : bit01 bs := by rw [← hbs]; exact bitsL_mem _
  have hST : ∀ a m, stF xs a m = ((partN bs a m : Nat) : Int) := fun a m => by rw [← hbs, ← hys]; exact stF_part hk0 a m
  have hfb := fbOk_of (ne_nil_of_len (xs := xs) (by omega)) (.inr (by omega))
  rw [hST, hST, hST, hST, hST, hQ, hD] at hfb
  have HYS := Lib.hid hys; have HYL := Lib.hid hyl; have HYB := Lib.hid hyb; have HBS := Lib.hid hbs; have HBL := Lib.hid hbl; have HB01 := Lib.hid hb01
  clear hys hyl hyb hbs hbl hb01 hk0
  generalize hX : xs.getD 0 0 = x at hx x0 x1 hK hQ hfb
  rw [show hdK xs = 3 from hk] at hfb
  have Hfb := Lib.hid hfb; have HQ := Lib.hid hQ; have HD := Lib.hid hD; have HST := Lib.hid hST; have HK := Lib.hid hk
  have HX := Lib.hid hX
  have HL := Lib.hid hlen; have HM := Lib.hid hbm
  clear hfb hQ hD hST hk hX hlen h hbm
  go_enter Try.func59, Try.ntmps59
  go_upto_region 1 with fail
  generalize hg : w.heap.size = g at *
  generalize World.alloc _ _ = W at *
  have zW := Below.lt_of' R0
  have hl1 : ad.block < W.heap.size := by omega
  have hl2 : ad.block ≠ W.heap.size := by omega
  have hx' : W.cell? ad = some (.int .i64 x) := by
    obtain ⟨ad', e, _, hx2⟩ := I0.at_ 0 (by omega)
    cases e
    rw [HX.out] at hx2
    simpa [Addr.add] using hx2
  clear hx
  go_upto_region 3 with fail
  go_region
  obtain ⟨R1, P1, B1, I1, z1⟩ := ff_open (t' := 32) (f := #[.int .i64 3, .int .i64 (x / 8 % 8), .int .i64 0, .int .i64 0, .int .i64 0, .int .i64 0, .int .i64 0, .slice none 0 0]) R0 B0 I0 hB
  generalize World.drew _ = Y at *
  generalize hg1 : W.heap.size = g1 at *
  clear R0 B0 I0 hx' hl2
  have ng : g ≠ g1 := by omega
  obtain ⟨c0, c1, c2, c3, c4, c5, c6, c7⟩ := fr_cells P1
  obtain ⟨f0, f1, f2, f3, f4, f5, f6, f7⟩ := fr_frozen P1
  have I8 : IntsAt Y B (some ⟨ad.block, ad.off + 1, none⟩) 8 (c + 8) ys := by
    have := I1.cut 1 9 (by omega) (by omega)
    rw [if_neg (by omega), HYS.out] at this
    exact this
  have e8 : (8 : Int) ≤ (((c + 8 : Nat)) : Int) := by omega
  go_upto_region 8 with (first
    | (go_at_call 73; with_reducible refine (i_hasS_yes 3 _ (by decide)).mono ?_; rintro e w' ⟨rfl, rfl⟩)
    | (go_at_call 90; refine (i_toBits _ _ _ ys _ _ I8 (by omega) HYB.out (by omega)).mono ?_; rintro e Y2 ⟨u2, rfl, o2, b2⟩; rw [HBS.out] at o2; obtain ⟨A2, cc2, rfl, i2⟩ := o2.ints (by have := HBL.out; omega); have z2 := b2.size; have R2 := (b2.block g (by omega)).trans R1; have P2 := (b2.block g1 (by omega)).trans P1; have B2 := B1.trans (b2.mono (by omega)); have I2 := I1.below' (by omega) b2)
    | (go_at_call 104; refine (i_stateFrom _ _ _ bs _ _ i2 (Nat.le_refl _) HB01.out HBL.out).mono ?_; rintro e Y3 ⟨rfl, b3⟩; have z3 := b3.size; have R3 := (b3.block g (by omega)).trans R2; have P3 := (b3.block g1 (by omega)).trans P2; have B3 := B2.trans (b3.mono (by omega)); have I3 := I2.below' (by omega) b3; obtain ⟨c0, c1, c2, c3, c4, c5, c6, c7⟩ := fr_cells P3; obtain ⟨f0, f1, f2, f3, f4, f5, f6, f7⟩ := fr_frozen P3))
  have P4 := five_heap8 (v2 := .int .i64 (partN bs 0 16 : Nat)) (v3 := .int .i64 (partN bs 16 4 : Nat)) (v4 := .int .i64 (partN bs 20 4 : Nat)) (v5 := .int .i64 (partN bs 24 8 : Nat)) (v6 := .int .i64 (partN bs 32 32 : Nat)) P3
  have R4 := (five_other8 (w := Y3) (g := g1) (h := g) (v2 := .int .i64 (partN bs 0 16 : Nat)) (v3 := .int .i64 (partN bs 16 4 : Nat)) (v4 := .int .i64 (partN bs 20 4 : Nat)) (v5 := .int .i64 (partN bs 24 8 : Nat)) (v6 := .int .i64 (partN bs 32 32 : Nat)) ng).trans R3
  have B4 := below_five8 (g := g1) (v2 := .int .i64 (partN bs 0 16 : Nat)) (v3 := .int .i64 (partN bs 16 4 : Nat)) (v4 := .int .i64 (partN bs 20 4 : Nat)) (v5 := .int .i64 (partN bs 24 8 : Nat)) (v6 := .int .i64 (partN bs 32 32 : Nat)) B3 (by omega)
  have I4 := I3.five8 (g := g1) (v2 := .int .i64 (partN bs 0 16 : Nat)) (v3 := .int .i64 (partN bs 16 4 : Nat)) (v4 := .int .i64 (partN bs 20 4 : Nat)) (v5 := .int .i64 (partN bs 24 8 : Nat)) (v6 := .int .i64 (partN bs 32 32 : Nat)) (by omega)
  clear c0 c1 c2 c3 c4 c5 c6 c7 f0 f1 f2 f3 f4 f5 f6 f7 R1 P1 B1 I1 R2 P2 B2 I2 R3 P3 B3 I3 I8 i2 o2 HB01 HBL HBS HYB HYL HYS
  revert P4 R4 B4 I4
  generalize World.setCell _ _ _ = Y4
  intro P1 R1 B1 I1
  have z1 := Below.lt_of' P1
  obtain ⟨c0, c1, c2, c3, c4, c5, c6, c7⟩ := fr_cells P1
  obtain ⟨f0, f1, f2, f3, f4, f5, f6, f7⟩ := fr_frozen P1
  have ID : IntsAt Y4 0 none 0 0 D := by rw [← HDe.out]; exact IntsAt.nil _ _ _ _ (by unfold maxLen; omega)
  have O3 : IOwn Y4 (g1 + 1) (.slice none 0 0) D := by rw [← HDe.out]; exact IOwn.nil _ _
  have P3 := P1; have R3 := R1; have B3 := B1; have I3 := I1
  clear c0 c1 c2 c3 c4 c5 c6 c7 f0 f1 f2 f3 f4 f5 f6 f7 P1 R1 B1 I1
  obtain ⟨c0, c1, c2, c3, c4, c5, c6, c7⟩ := fr_cells P3
  go_upto_region 11 with (first
    | (go_at_call 97; with_reducible refine (i_hasD_no 3 _ (by decide)).mono ?_; rintro e w' ⟨rfl, rfl⟩)
    | fail)
  all_goals (generalize hZ : Y4 = Z at *)
  all_goals clear hZ c0 c1 c2 c3 c4 c5 c6 c7
  all_goals
    have zZ := Below.lt_of' P3
    have CI := i_IsFrame 3 (x / 8 % 8) ((partN bs 0 16 : Nat)) ((partN bs 16 4 : Nat)) ((partN bs 20 4 : Nat)) ((partN bs 24 8 : Nat)) ((partN bs 32 32 : Nat)) none 0 0 D _ Z ID ((by omega))
    have HF0 := Hfb.out
    obtain ⟨d0, d1, d2, d3, d4, d5, d6, d7⟩ := fr_cells P3
    cases hf : frOk 3 (x / 8 % 8) ((partN bs 0 16 : Nat)) ((partN bs 16 4 : Nat)) ((partN bs 20 4 : Nat)) ((partN bs 24 8 : Nat)) ((partN bs 32 32 : Nat)) D
    · rw [hf] at CI HF0
      have HF := Lib.hid (HF0.trans (Bool.false_and _))
      clear HF0 Hfb
      go_wp2_with (first
        | (go_at_call 39; refine CI.mono ?_; rintro e Z5 ⟨rfl, b5⟩; have R5 := (b5.block g (by omega)).trans R3; have B5 := B3.trans (b5.mono (by omega)); obtain ⟨c0, c1, c2', c3, c4, c5, c6, c7⟩ := fr_cells R5; obtain ⟨f0, f1, f2, f3, f4, f5, f6, f7⟩ := fr_frozen R5)
        | fail)
      all_goals
        have RR := eight_heap (v0 := .int .i64 0) (v1 := .int .i64 0) (v2 := .int .i64 0) (v3 := .int .i64 0) (v4 := .int .i64 0) (v5 := .int .i64 0) (v6 := .int .i64 0) (v7 := .slice none 0 0) R5
        have BB := below_eight (v0 := .int .i64 0) (v1 := .int .i64 0) (v2 := .int .i64 0) (v3 := .int .i64 0) (v4 := .int .i64 0) (v5 := .int .i64 0) (v6 := .int .i64 0) (v7 := .slice none 0 0) B5 (Nat.le_refl g)
        clear c0 c1 c2' c3 c4 c5 c6 c7 f0 f1 f2 f3 f4 f5 f6 f7 R5 B5
        revert RR BB
        generalize World.setCell _ _ _ = Y9
        intro RR BB
        obtain ⟨e0, e1, e2, e3, e4, e5, e6, e7⟩ := fr_cells RR
        go_wp2
        exact bodyPost_ret (v := .tuple #[.agg #[.int .i64 0, .int .i64 0, .int .i64 0, .int .i64 0, .int .i64 0, .int .i64 0, .int .i64 0, .slice none 0 0], .bool false]) (by simp [results, Try.results59, go_sem, e0, e1, e2, e3, e4, e5, e6, e7]) rfl ⟨0, 0, 0, 0, 0, 0, 0, none, 0, 0, by rw [HF.out], (fun h => by rw [HF.out] at h; cases h), by rw [hg]; exact BB⟩
    · rw [hf, Bool.true_and] at HF0
      rw [hf] at CI
      have CB := fun W' hI' hB' => i_body 3 (x / 8 % 8) ((partN bs 0 16 : Nat)) ((partN bs 16 4 : Nat)) ((partN bs 20 4 : Nat)) ((partN bs 24 8 : Nat)) ((partN bs 32 32 : Nat)) none 0 0 D 0 W' hI' hB' hf
      have hbs := body_small hf
      generalize hLe : bodyL 3 (x / 8 % 8) ((partN bs 0 16 : Nat)) ((partN bs 16 4 : Nat)) ((partN bs 20 4 : Nat)) ((partN bs 24 8 : Nat)) ((partN bs 32 32 : Nat)) D = L at *
      clear hLe
      cases he : eqL L xs
      · rw [he] at HF0
        have HF := Lib.hid HF0
        clear HF0 Hfb
        go_wp2_with (first
          | (go_at_call 39; refine CI.mono ?_; rintro e Z5 ⟨rfl, b5⟩; have z5 := b5.size; have R5 := (b5.block g (by omega)).trans R3; have P5 := (b5.block g1 (by omega)).trans P3; have B5 := B3.trans (b5.mono (by omega)); have ID5 := ID.below' ((by omega)) b5; have I5 := I3.below' (by omega) b5; obtain ⟨d0, d1, d2, d3, d4, d5, d6, d7⟩ := fr_cells P5)
          | (go_at_call 54; refine (CB _ ID5 ((by omega))).mono ?_; rintro e Z6 ⟨u6, rfl, o6, b6⟩; obtain ⟨A6, cc6, rfl, i6⟩ := o6.ints (by omega); have R6 := (b6.block g (by omega)).trans R5; have B6 := B5.trans (b6.mono (by omega)); have I6 := I5.below' (by omega) b6)
          | (go_at_call 71; refine (l_Equal _ _ _ _ _ _ L xs _ _ _ i6 I6).mono ?_; rintro e Z7 ⟨rfl, m7, rfl⟩; have R7 : (Z6.drewN m7).heap[g]? = _ := R6; have B7 := below_drewN B6 m7; obtain ⟨c0, c1, c2', c3, c4, c5, c6, c7⟩ := fr_cells R7; obtain ⟨f0, f1, f2, f3, f4, f5, f6, f7⟩ := fr_frozen R7)
          | fail)
        all_goals
          have RR := eight_heap (v0 := .int .i64 0) (v1 := .int .i64 0) (v2 := .int .i64 0) (v3 := .int .i64 0) (v4 := .int .i64 0) (v5 := .int .i64 0) (v6 := .int .i64 0) (v7 := .slice none 0 0) R7
          have BB := below_eight (v0 := .int .i64 0) (v1 := .int .i64 0) (v2 := .int .i64 0) (v3 := .int .i64 0) (v4 := .int .i64 0) (v5 := .int .i64 0) (v6 := .int .i64 0) (v7 := .slice none 0 0) B7 (Nat.le_refl g)
          clear c0 c1 c2' c3 c4 c5 c6 c7 f0 f1 f2 f3 f4 f5 f6 f7 R7 B7
          revert RR BB
          generalize World.setCell _ _ _ = Y9
          intro RR BB
          obtain ⟨e0, e1, e2, e3, e4, e5, e6, e7⟩ := fr_cells RR
          go_wp2
          exact bodyPost_ret (v := .tuple #[.agg #[.int .i64 0, .int .i64 0, .int .i64 0, .int .i64 0, .int .i64 0, .int .i64 0, .int .i64 0, .slice none 0 0], .bool false]) (by simp [results, Try.results59, go_sem, e0, e1, e2, e3, e4, e5, e6, e7]) rfl ⟨0, 0, 0, 0, 0, 0, 0, none, 0, 0, by rw [HF.out], (fun h => by rw [HF.out] at h; cases h), by rw [hg]; exact BB⟩
      · rw [he] at HF0
        have HF := Lib.hid HF0
        clear HF0 Hfb
        go_wp2_with (first
          | (go_at_call 39; refine CI.mono ?_; rintro e Z5 ⟨rfl, b5⟩; have z5 := b5.size; have R5 := (b5.block g (by omega)).trans R3; have P5 := (b5.block g1 (by omega)).trans P3; have B5 := B3.trans (b5.mono (by omega)); have ID5 := ID.below' ((by omega)) b5; have I5 := I3.below' (by omega) b5; have O5 := O3.below_ b5; obtain ⟨d0, d1, d2, d3, d4, d5, d6, d7⟩ := fr_cells P5)
          | (go_at_call 54; refine (CB _ ID5 ((by omega))).mono ?_; rintro e Z6 ⟨u6, rfl, o6, b6⟩; obtain ⟨A6, cc6, rfl, i6⟩ := o6.ints (by omega); have R6 := (b6.block g (by omega)).trans R5; have P6 := (b6.block g1 (by omega)).trans P5; have B6 := B5.trans (b6.mono (by omega)); have I6 := I5.below' (by omega) b6; have O6 := O5.below_ b6)
          | (go_at_call 71; refine (l_Equal _ _ _ _ _ _ L xs _ _ _ i6 I6).mono ?_; rintro e Z7 ⟨rfl, m7, rfl⟩; have R7 : (Z6.drewN m7).heap[g]? = _ := R6; have P7 : (Z6.drewN m7).heap[g1]? = _ := P6; have B7 := below_drewN B6 m7; have O7 := O6.drewN m7; obtain ⟨c0, c1, c2', c3, c4, c5, c6, c7⟩ := fr_cells R7; obtain ⟨f0, f1, f2, f3, f4, f5, f6, f7⟩ := fr_frozen R7; obtain ⟨d0, d1, d2, d3, d4, d5, d6, d7⟩ := fr_cells P7)
          | fail)
        all_goals
          have RR := eight_heap (v0 := .int .i64 3) (v1 := .int .i64 (x / 8 % 8)) (v2 := .int .i64 (partN bs 0 16 : Nat)) (v3 := .int .i64 (partN bs 16 4 : Nat)) (v4 := .int .i64 (partN bs 20 4 : Nat)) (v5 := .int .i64 (partN bs 24 8 : Nat)) (v6 := .int .i64 (partN bs 32 32 : Nat)) (v7 := .slice none 0 0) R7
          have BB := below_eight (v0 := .int .i64 3) (v1 := .int .i64 (x / 8 % 8)) (v2 := .int .i64 (partN bs 0 16 : Nat)) (v3 := .int .i64 (partN bs 16 4 : Nat)) (v4 := .int .i64 (partN bs 20 4 : Nat)) (v5 := .int .i64 (partN bs 24 8 : Nat)) (v6 := .int .i64 (partN bs 32 32 : Nat)) (v7 := .slice none 0 0) B7 (Nat.le_refl g)
          have OO := O7.eight (g := g) (by omega) (.int .i64 3) (.int .i64 (x / 8 % 8)) (.int .i64 (partN bs 0 16 : Nat)) (.int .i64 (partN bs 16 4 : Nat)) (.int .i64 (partN bs 20 4 : Nat)) (.int .i64 (partN bs 24 8 : Nat)) (.int .i64 (partN bs 32 32 : Nat)) (.slice none 0 0)
          clear c0 c1 c2' c3 c4 c5 c6 c7 f0 f1 f2 f3 f4 f5 f6 f7 R7 B7
          revert RR BB OO
          generalize World.setCell _ _ _ = Y9
          intro RR BB OO
          obtain ⟨e0, e1, e2, e3, e4, e5, e6, e7⟩ := fr_cells RR
          go_wp2
          exact bodyPost_ret (v := .tuple #[.agg #[.int .i64 3, .int .i64 (x / 8 % 8), .int .i64 (partN bs 0 16 : Nat), .int .i64 (partN bs 16 4 : Nat), .int .i64 (partN bs 20 4 : Nat), .int .i64 (partN bs 24 8 : Nat), .int .i64 (partN bs 32 32 : Nat), .slice none 0 0], .bool true]) (by simp [results, Try.results59, go_sem, e0, e1, e2, e3, e4, e5, e6, e7]) rfl ⟨3, x / 8 % 8, (partN bs 0 16 : Nat), (partN bs 16 4 : Nat), (partN bs 20 4 : Nat), (partN bs 24 8 : Nat), (partN bs 32 32 : Nat), none, 0, 0, by rw [HF.out], fun _ => ⟨HK.out.symm, HQ.out.symm, (HST.out _ _).symm, (HST.out _ _).symm, (HST.out _ _).symm, (HST.out _ _).symm, (HST.out _ _).symm, by rw [HD.out, hg]; exact OO.less (by omega)⟩, by rw [hg]; exact BB⟩
end Go.Proofs.Ytpcdachkmekjgaa

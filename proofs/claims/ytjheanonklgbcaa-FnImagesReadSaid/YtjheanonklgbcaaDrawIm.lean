/- The draw of an image. -/
import Derived.Test.YtjheanonklgbcaaPImg
import Derived.Test.YtjheanonklgbcaaDrawBz
namespace Go.Proofs.Ytjheanonklgbcaa
open Go.RowKit
set_option linter.unusedSimpArgs false
set_option linter.unusedVariables false
def DrewIm (B g : Nat) (w : World) (e : Ending) (w' : World) : Prop := ∃ (A : Option Addr) (n c : Nat) (xs : List Int), e = .returned (.slice A n c) ∧ IntsAt w' w'.heap.size A n c xs ∧ Below B w w'
theorem bel_src {B0 g : Nat} {w W W' : World} (h : Below B0 w W) (hB : B0 ≤ g) (hz : B0 ≤ W.heap.size) (g' : W.grownBy W' (some g)) : Below B0 w W' := h.trans (grown_below g' hz (fun q hq => by injection hq with hq; omega))
set_option maxHeartbeats 8000000 in
theorem s_l09DrawImage (g B B0 : Nat) (w : World) (h : Src w B g) (hB0 : B0 ≤ g) :
    Calls Try.prog 77 #[.pointer (some ⟨g, 0, none⟩)] w (DrewIm B0 g w) := by
  have hl := h.lt
  go_enter Try.func77, Try.ntmps77
  go_wp2_with fail
  refine (s_l01DrawBytes g B 70 _ h (by omega) (by omega)).mono ?_
  rintro e w1 ⟨v1, ys, rfl, hy, o1, S1, g1⟩
  have z1 := g1.size
  have B1 := bel_src (Below.refl B0 w) hB0 (by omega) g1
  obtain ⟨A1, c1, rfl, I1⟩ := o1.ints (by omega)
  clear h o1 g1
  have HIM := Lib.hid (s_ImageOf A1 ys.length c1 ys _ w1 I1 (Nat.le_refl _))
  have hRl : (imR ys).length ≤ 1100 ∧ (imC ys = 0 → 5 ≤ (imR ys).length) := by
    refine ⟨?_, fun h => ?_⟩
    · by_cases h : imC ys = 0
      · obtain ⟨-, -, -, -, h5, h6⟩ := img_all h
        have := cut28_le _ h6
        omega
      · simp [imR, h]
    · obtain ⟨-, -, -, -, h5, h6⟩ := img_all h
      have h1 : 1 ≤ cutN 28 ys.length := by unfold cutN; split <;> omega
      omega
  obtain ⟨hR1, hR5⟩ := hRl
  clear I1
  generalize imC ys = C at *
  generalize imR ys = R at *
  go_wp2_with fail
  refine HIM.out.mono ?_
  rintro e w2 ⟨u2, rfl, o2, b2⟩
  have z2 := b2.size
  have S2 := S1.below b2
  have B2 := B1.trans (b2.mono (by omega))
  have hgw : g < w1.heap.size := by omega
  have hne : u2.ownBlock ≠ some g := fun e => by have := (o2.lt g e).1; omega
  clear HIM S1 B1 b2
  by_cases hC : C = 0
  · subst hC
    have hR := hR5 rfl
    have hRi : (5 : Int) ≤ (R.length : Int) := by omega
    have hRj : (R.length : Int) ≤ 1100 := by omega
    clear hR5
    go_wp2_with fail
    refine (s_l01Next g B 8 _ S2).mono ?_
    rintro e w3 ⟨r, rfl, _, _, S3, g3⟩
    have o3 := o2.kept g3 (.inr hne)
    have B3 := bel_src B2 hB0 (by omega) g3
    have z3 := g3.size
    clear S2 o2 B2 g3
    obtain ⟨Ao, co, rfl, I3⟩ := o3.ints (by omega)
    have hco := I3.le
    have hcoi : (R.length : Int) ≤ (co : Int) := by omega
    cases r0 : (r == 0)
    · cases r1 : (r == 1)
      · cases r2 : (r == 2)
        · cases r3 : (r == 3)
          · cases r4 : (r == 4)
            · go_wp2
              go_ret
              exact ⟨_, _, _, _, rfl, I3, B3⟩
            · -- a short block that is none
              have I9 := lit_ints w3 [0, 1, 7] 2 (by simp)
              have HK := Lib.hid (s_l09Check 0 (some ⟨w3.heap.size, 0, none⟩) 3 3 [0, 1, 7] (w3.heap.size + 1) _ I9 (by simp) (by simp) (by omega) (by omega))
              have hN := regC_lt 0 [0, 1, 7] (by omega)
              generalize regC 0 [0, 1, 7] = N at *
              have BL := B3.alloc (by omega) (.cells #[.int .i64 0, .int .i64 1, .int .i64 7] 2)
              clear I9 I3 o3 S3
              go_wp2_with (go_at_call 96; refine HK.out.mono ?_; rintro e w4 ⟨rfl, b4⟩)
              go_ret
              exact ⟨_, _, _, [0, 1, 7, (N : Int) / 65536, (N : Int) / 256 % 256, (N : Int) % 256], rfl, (lit_ints w4 [0, 1, 7, (N : Int) / 65536, (N : Int) / 256 % 256, (N : Int) % 256] 2 (by simp)).more (by simp), (BL.trans (b4.mono (by rw [World.size_alloc]; omega))).alloc (by have := b4.size; rw [World.size_alloc] at this; omega) _⟩
          · -- a right block too many
            have L0 := (lit_own w3 [0, 128] w3.heap.size (Nat.le_refl _) (by simp)).alloc (.cells #[.int .i64 0, .int .i64 0, .int .i64 0] 2)
            have K0 := lit_ints (w3.alloc (.cells #[.int .i64 0, .int .i64 128] 2)) [0, 0, 0] 2 (by simp)
            simp only [World.size_alloc] at K0
            have o3a := (o3.alloc (.cells #[.int .i64 0, .int .i64 128] 2)).alloc (.cells #[.int .i64 0, .int .i64 0, .int .i64 0] 2)
            have B3a := (B3.alloc (by omega) (.cells #[.int .i64 0, .int .i64 128] 2)).alloc (by rw [World.size_alloc]; omega) (.cells #[.int .i64 0, .int .i64 0, .int .i64 0] 2)
            have hno : (Value.slice Ao R.length co).ownBlock ≠ some w3.heap.size := fun e => by have := (o3.lt _ e).2; omega
            have HK := Lib.hid (fun (A' : Option Addr) (c' B' : Nat) (W : World) (hI : IntsAt W B' A' 2 c' [0, 128]) (hB' : B' ≤ W.heap.size) => s_l09Check 0 A' 2 c' [0, 128] B' W hI hB' (by simp) (by omega) (by omega))
            have hN := regC_lt 0 [0, 128] (by omega)
            generalize regC 0 [0, 128] = N at *
            clear I3 S3
            go_upto_region 14 with (at_builtin; refine wpList_app _ rfl _ _ 22 rfl w3.heap.size Try.underlying22 int_info (.slice (some ⟨w3.heap.size, 0, none⟩) 2 2) [0, 128] rfl L0 _ _ 3 3 [0, 0, 0] rfl K0 (by first | simp | (simp; omega)) (by first | (simp; done) | (simp; omega)) ?_; intro v5 w5 O5 g5 hb5)
            have z5 : w3.heap.size + 2 ≤ w5.heap.size := by have := g5.size; simp at this; omega
            have o5 := o3a.kept g5 (.inr hno)
            have B5 := B3a.grown g5 (by simp; omega) (fun k hk => by simp only [Value.ownBlock] at hk; injection hk with hk; omega)
            obtain ⟨A5, c5, e5, I5⟩ := O5.ints (by simp)
            simp only [List.length_append, List.length_cons, List.length_nil, Nat.reduceAdd] at e5 I5
            subst e5
            have hc5 := I5.le
            have hc5i : (2 : Int) ≤ (c5 : Int) := by omega
            have J5 : IntsAt w5 w5.heap.size A5 2 c5 [0, 128] := I5.cutTo 2 (by omega)
            clear L0 K0 o3a B3a o3 B3 g5 hb5 O5 I5
            go_upto_region 15 with (go_at_call 96; refine (HK.out _ _ _ _ J5 (Nat.le_refl _)).mono ?_; rintro e w6 ⟨rfl, b6⟩)
            have z6 := b6.size
            have o6 := o5.below_ b6
            have B6 := B5.trans (b6.mono (by omega))
            obtain ⟨Ar, cr, er, Ir⟩ := o6.ints (by omega)
            injection er with er1 er2 er3
            subst er1 er3
            have L6 := lit_own w6 [0, 128, (N : Int) / 65536, (N : Int) / 256 % 256, (N : Int) % 256] w6.heap.size (Nat.le_refl _) (by simp)
            have IC := (Ir.cutFrom 5 (by omega)).alloc (Nat.le_refl _) (.cells #[.int .i64 0, .int .i64 128, .int .i64 ((N : Int) / 65536), .int .i64 ((N : Int) / 256 % 256), .int .i64 ((N : Int) % 256)] 2)
            have BL := B6.alloc (by omega) (.cells #[.int .i64 0, .int .i64 128, .int .i64 ((N : Int) / 65536), .int .i64 ((N : Int) / 256 % 256), .int .i64 ((N : Int) % 256)] 2)
            clear o5 o6 B5 B6 b6 J5 HK Ir
            by_cases hc : co = 5
            · subst hc
              have hm0 : R.length - 5 = 0 := by omega
              have hm1 : (R.length : Int) = 5 := by omega
              clear IC
              go_wp2_with (at_builtin; refine wpList_app _ rfl _ _ 22 rfl w6.heap.size Try.underlying22 int_info (.slice (some ⟨w6.heap.size, 0, none⟩) 5 5) [0, 128, (N : Int) / 65536, (N : Int) / 256 % 256, (N : Int) % 256] rfl L6 0 _ 0 _ [] rfl (IntsAt.nil _ 0 _ _ (by unfold maxLen; omega)) (by first | (simp; done) | (simp; omega)) (by first | (simp; done) | (simp; omega)) ?_; intro v7 w7 O7 g7 hb7; have hQl : ([0, 128, (N : Int) / 65536, (N : Int) / 256 % 256, (N : Int) % 256] ++ ([] : List Int)).length ≤ 2000 := (by simp); generalize ([0, 128, (N : Int) / 65536, (N : Int) / 256 % 256, (N : Int) % 256] ++ ([] : List Int)) = Q at O7 hQl; obtain ⟨A7, c7, rfl, I7⟩ := O7.ints (by omega))
              go_ret
              exact ⟨_, _, _, _, rfl, I7, BL.grown g7 (by simp; omega) (fun k hk => by simp only [Value.ownBlock] at hk; injection hk with hk; omega)⟩
            · rw [if_neg hc] at IC
              go_wp2_with (at_builtin; refine wpList_app _ rfl _ _ 22 rfl w6.heap.size Try.underlying22 int_info (.slice (some ⟨w6.heap.size, 0, none⟩) 5 5) [0, 128, (N : Int) / 65536, (N : Int) / 256 % 256, (N : Int) % 256] rfl L6 _ _ _ _ (R.drop 5) rfl IC (by first | (simp; done) | (simp; omega)) (by first | (simp; done) | (simp; omega)) ?_; intro v7 w7 O7 g7 hb7; have hQl : ([0, 128, (N : Int) / 65536, (N : Int) / 256 % 256, (N : Int) % 256] ++ R.drop 5).length ≤ 2000 := (by simp; omega); generalize ([0, 128, (N : Int) / 65536, (N : Int) / 256 % 256, (N : Int) % 256] ++ R.drop 5) = Q at O7 hQl; obtain ⟨A7, c7, rfl, I7⟩ := O7.ints (by omega))
              go_ret
              exact ⟨_, _, _, _, rfl, I7, BL.grown g7 (by simp; omega) (fun k hk => by simp only [Value.ownBlock] at hk; injection hk with hk; omega)⟩
        · by_cases h33 : 33 < R.length
          · have h33' : (33 : Int) < (R.length : Int) := by omega
            have IC := I3.cutFrom 33 (by omega)
            rw [if_neg (by omega)] at IC
            go_wp2
            go_ret
            exact ⟨_, _, _, _, rfl, IC, B3⟩
          · have h33' : (R.length : Int) ≤ 33 := by omega
            go_wp2
            go_ret
            exact ⟨_, _, _, _, rfl, I3, B3⟩
      · go_wp2_with fail
        refine (s_l01Next g B _ _ S3).mono ?_
        rintro e w4 ⟨q0, rfl, q00, q01, S4, g4⟩
        have o4 := o3.kept g4 (.inr hne)
        have B4 := bel_src B3 hB0 (by omega) g4
        obtain ⟨q, rfl⟩ := nat_of' q0 q00
        have qL : (q : Int) ≤ (R.length : Int) := (by omega)
        obtain ⟨A6, c6, e6, i6⟩ := o4.ints (by omega)
        injection e6 with e61 e62 e63
        subst e61 e63
        clear S3 o3 I3 B3 g4 q01 S4 o4
        go_wp2
        go_ret
        exact ⟨_, _, _, _, rfl, i6.cutTo q (by omega), B4⟩
    · go_wp2_with fail
      refine (s_l01Next g B _ _ S3).mono ?_
      rintro e w4 ⟨q0, rfl, q00, q01, S4, g4⟩
      have o4 := o3.kept g4 (.inr hne)
      have B4 := bel_src B3 hB0 (by omega) g4
      obtain ⟨q, rfl⟩ := nat_of' q0 q00
      have qL : (q : Int) < (R.length : Int) := (by omega)
      have z4 := g4.size
      clear S3 o3 I3 B3 g4 q01
      go_wp2_with fail
      refine (s_l01Next g B 256 _ S4).mono ?_
      rintro e w5 ⟨r2', rfl, _, _, S5, g5⟩
      have o5 := o4.kept g5 (.inr hne)
      have B5 := bel_src B4 hB0 (by omega) g5
      have z5 := g5.size
      clear S4 S5 o4 B4 g5
      obtain ⟨A', c', e', hnc, hcm, hA⟩ := o5.form
      injection e' with e1 e2 e3
      subst e1 e3
      rcases hA with ⟨_, hxx, _⟩ | ⟨ob, rfl, hob, hlt⟩
      · exfalso; rw [hxx] at hR; simp at hR
      have hown : w5.ownsRow w1.heap.size 2 1 (.slice (some ⟨ob, 0, none⟩) R.length co) R.length (R.map (Value.int .i64)) := o5
      have hoc : w5.cell? ⟨ob, q, none⟩ = some (.int .i64 (R.getD q 0)) := by
        rw [hown.cellAt q (by omega), List.getElem?_map, List.getElem?_eq_getElem (by omega)]
        simp [List.getD_eq_getElem?_getD, List.getElem?_eq_getElem (show q < R.length by omega)]
      have hof := hown.frozenAt q
      obtain ⟨hst, _⟩ := hown.stored q (.int .i64 r2')
      rw [← List.map_set] at hst
      have hst' : IOwn (w5.setCell ⟨ob, q, none⟩ (.int .i64 r2')) w1.heap.size (.slice (some ⟨ob, 0, none⟩) R.length co) (R.set q r2') := by
        unfold IOwn; rw [List.length_set]; exact hst
      have HST := Lib.hid hst'
      have BB := Lib.hid (B5.setCell (p := ⟨ob, q, none⟩) (by show B0 ≤ ob; omega) (.int .i64 r2'))
      obtain ⟨y, hyy⟩ : ∃ y, y = R.getD q 0 := ⟨_, rfl⟩
      rw [← hyy] at hoc
      clear hst hst' hown o5 B5 hyy e2 hob hlt hnc hcm
      go_wp2
      go_ret
      obtain ⟨A9, c9, e9, i9⟩ := HST.out.ints (by rw [List.length_set]; omega)
      injection e9 with e91 e92 e93
      subst e91 e93
      rw [List.length_set] at i9
      exact ⟨_, _, _, _, rfl, i9, BB.out⟩
  · have hf0 : (C != 0) = true := by simpa using hC
    clear o2 hR5
    go_wp2_with fail
    refine (s_l01DrawBytes g B 40 _ S2 (by omega) (by omega)).mono ?_
    rintro e w4 ⟨v4, zs, rfl, hz, o4, S4, g4⟩
    have B4 := bel_src B2 hB0 (by omega) g4
    obtain ⟨A4, c4, rfl, I4⟩ := o4.ints (by omega)
    go_wp2
    go_ret
    exact ⟨_, _, _, _, rfl, I4, B4⟩
end Go.Proofs.Ytjheanonklgbcaa

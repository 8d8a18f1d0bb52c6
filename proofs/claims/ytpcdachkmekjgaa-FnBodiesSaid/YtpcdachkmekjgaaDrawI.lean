/- The contract of the draw of FrameFromBody's argument. -/
import Derived.Test.YtpcdachkmekjgaaLawF
namespace Go.Proofs.Ytpcdachkmekjgaa
open Go.RowKit
set_option linter.unusedSimpArgs false
set_option linter.unusedVariables false
def DrewInts (w : World) (e : Ending) (w' : World) : Prop := ∃ (A : Option Addr) (n c : Nat) (xs : List Int), e = .returned (.slice A n c) ∧ IntsAt w' w'.heap.size A n c xs ∧ n ≤ 16777216 ∧ Below w.heap.size w w'
set_option maxHeartbeats 4000000 in
theorem s_DrawFrameFromBody (A : Option Addr) (n c : Nat) (bs : List Int) (B : Nat) (w : World) (h : BytesAt w B A n c bs) (hB : B ≤ w.heap.size) :
    Calls Try.prog 44 #[.slice A n c] w (DrewInts w) := by
  go_enter Try.func44, Try.ntmps44
  go_wp2_with fail
  refine (s_l01From _ _ _ _ B _ h hB).mono ?_
  rintro e w1 ⟨g, rfl, S1, hg, hb⟩
  clear h
  go_wp2_with fail
  refine (s_l06Draw g B _ S1).mono ?_
  rintro e w2 ⟨k, q, t, m, r, s, v, vs, xs, rfl, hx, ho, S2, g2⟩
  have B2 := hb.trans (grown_below g2 hb.size (fun q hq => by injection hq with hq; omega))
  have z2 := g2.size
  have z1 := hb.size
  have hgw : g < w1.heap.size := S1.lt
  obtain ⟨A2, c2, rfl, I2⟩ := ho.ints (by omega)
  clear S1 g2 hb ho
  go_wp2_with fail
  refine (s_FrameBody k q t m r s v A2 xs.length c2 xs _ _ I2 (Nat.le_refl _)).mono ?_
  rintro e w3 ⟨v3, rfl, o3, b3⟩
  have S3 := S2.below b3
  have B3 := B2.trans (b3.mono B2.size)
  have z3 := b3.size
  have zB2 := B2.size
  have l3 := S2.lt
  clear S2 B2 b3 I2
  have hne : v3.ownBlock ≠ some g := fun e => by have := (o3.lt g e).1; omega
  have hOK := fun h : frOk k q t m r s v xs = true => bodyL_ok h
  generalize frOk k q t m r s v xs = ok at *
  cases ok
  · have hf0 : (fbC false != 0) = true := by decide
    clear o3 hOK
    go_wp2_with fail
    refine (s_l01DrawBytes g B 12 _ S3 (by omega) (by omega)).mono ?_
    rintro e w4 ⟨v4, ys, rfl, hy, o4, S4, g4⟩
    have B4 := B3.trans (grown_below g4 B3.size (fun q hq => by injection hq with hq; omega))
    obtain ⟨A4, c4, rfl, I4⟩ := o4.ints (by omega)
    go_wp2
    go_ret
    exact ⟨_, _, _, _, rfl, I4, by omega, B4⟩
  · have hf0 : (fbC true != 0) = false := by decide
    have hLb : (bodyL k q t m r s v xs).length ≤ 1000 := (hOK rfl).2.2.2.2.2.1
    have hLp : 0 < (bodyL k q t m r s v xs).length := (hOK rfl).2.2.2.2.2.2
    clear hOK
    simp only [if_true] at o3
    generalize bodyL k q t m r s v xs = L at *
    go_wp2_with fail
    refine (s_l01Next g B 12 _ S3).mono ?_
    rintro e w4 ⟨r4, rfl, _, _, S4, g4⟩
    have o4 := o3.kept g4 (.inr hne)
    have B4 := B3.trans (grown_below g4 B3.size (fun q hq => by injection hq with hq; omega))
    have z4 := g4.size
    have zB3 := B3.size
    clear S3 o3 B3 g4
    cases hr4 : (r4 == 0)
    · go_wp2_with fail
      refine (s_l01Next g B 10 _ S4).mono ?_
      rintro e w5 ⟨r, rfl, _, _, S5, g5⟩
      have o5 := o4.kept g5 (.inr hne)
      have B5 := B4.trans (grown_below g5 B4.size (fun q hq => by injection hq with hq; omega))
      have z5 := g5.size
      have zB4 := B4.size
      clear S4 o4 B4 g5
      obtain ⟨A5, c5, rfl, i5⟩ := o5.ints (by omega)
      have hc5 := i5.le
      cases h0 : (r == 0)
      · cases h1 : (r == 1)
        · cases h2 : (r == 2)
          · go_wp2
            go_ret
            exact ⟨_, _, _, _, rfl, i5, by omega, B5⟩
          · go_wp2_with (at_builtin; refine wpList_app _ rfl _ _ 24 rfl w2.heap.size Try.underlying24 int_info _ L rfl (o5.alloc _) _ _ 1 1 [(0 : Int)] rfl (lit_ints w5 [(0 : Int)] 2 (by simp)) (by omega) (by simp; omega) ?_; intro v' w' hown' hg' _; obtain ⟨A9, c9, rfl, i9⟩ := hown'.ints (by simp; omega))
            go_ret
            exact ⟨_, _, _, L ++ [0], rfl, (by have h9 := i9; rw [List.length_append] at h9; exact h9), by omega, app_below' B5 (by omega) (by omega) o5 hg'⟩
        · go_wp2_with fail
          refine (s_l01Next g B _ _ S5).mono ?_
          rintro e w6 ⟨q0, rfl, q00, q01, S6, g6⟩
          have o6 := o5.kept g6 (.inr hne)
          have B6 := B5.trans (grown_below g6 B5.size (fun q hq => by injection hq with hq; omega))
          obtain ⟨q, rfl⟩ := nat_of' q0 q00
          have qL : (q : Int) ≤ (L.length : Int) := (by omega)
          obtain ⟨A6, c6, e6, i6⟩ := o6.ints (by omega)
          injection e6 with e61 e62 e63
          subst e61 e63
          clear S5 o5 i5 B5 g6 q01 S6 o6
          go_wp2
          go_ret
          exact ⟨_, _, _, _, rfl, i6.cutTo q (by omega), by omega, B6⟩
      · go_wp2_with fail
        refine (s_l01Next g B _ _ S5).mono ?_
        rintro e w6 ⟨q0, rfl, q00, q01, S6, g6⟩
        have o6 := o5.kept g6 (.inr hne)
        have B6 := B5.trans (grown_below g6 B5.size (fun q hq => by injection hq with hq; omega))
        obtain ⟨q, rfl⟩ := nat_of' q0 q00
        have qL : (q : Int) < (L.length : Int) := (by omega)
        have z6 := g6.size
        clear S5 o5 i5 B5 g6 q01
        go_wp2_with fail
        refine (s_l01Next g B 256 _ S6).mono ?_
        rintro e w7 ⟨r2, rfl, _, _, S7, g7⟩
        have o7 := o6.kept g7 (.inr hne)
        have B7 := B6.trans (grown_below g7 B6.size (fun q hq => by injection hq with hq; omega))
        have z7 := g7.size
        clear S6 S7 o6 B6 g7
        obtain ⟨A', c', e', hnc, hcm, hA⟩ := o7.form
        injection e' with e1 e2 e3
        subst e1 e3
        rcases hA with ⟨_, hxx, _⟩ | ⟨ob, rfl, hob, hlt⟩
        · rw [hxx] at hLp; simp at hLp
        have hown : w7.ownsRow w2.heap.size 2 1 (.slice (some ⟨ob, 0, none⟩) L.length c5) L.length (L.map (Value.int .i64)) := o7
        have hoc : w7.cell? ⟨ob, q, none⟩ = some (.int .i64 (L.getD q 0)) := by
          rw [hown.cellAt q (by omega), List.getElem?_map, List.getElem?_eq_getElem (by omega)]
          simp [List.getD_eq_getElem?_getD, List.getElem?_eq_getElem (show q < L.length by omega)]
        have hof := hown.frozenAt q
        obtain ⟨hst, _⟩ := hown.stored q (.int .i64 r2)
        rw [← List.map_set] at hst
        have hst' : IOwn (w7.setCell ⟨ob, q, none⟩ (.int .i64 r2)) w2.heap.size (.slice (some ⟨ob, 0, none⟩) L.length c5) (L.set q r2) := by
          unfold IOwn; rw [List.length_set]; exact hst
        have HST := Lib.hid hst'
        have BB := Lib.hid (B7.setCell (p := ⟨ob, q, none⟩) (by show w.heap.size ≤ ob; omega) (.int .i64 r2))
        obtain ⟨y, hy⟩ : ∃ y, y = L.getD q 0 := ⟨_, rfl⟩
        rw [← hy] at hoc
        clear hst hst' hown o7 B7 hy e2 hob hlt hnc hcm
        go_wp2
        go_ret
        obtain ⟨A9, c9, e9, i9⟩ := HST.out.ints (by rw [List.length_set]; omega)
        injection e9 with e91 e92 e93
        subst e91 e93
        rw [List.length_set] at i9
        exact ⟨_, _, _, _, rfl, i9, by omega, BB.out⟩
    · clear o4
      go_wp2_with fail
      refine (s_l01DrawBytes g B 12 _ S4 (by omega) (by omega)).mono ?_
      rintro e w5 ⟨v5, ys, rfl, hy, o5, S5, g5⟩
      have B5 := B4.trans (grown_below g5 B4.size (fun q hq => by injection hq with hq; omega))
      obtain ⟨A5, c5, rfl, I5⟩ := o5.ints (by omega)
      go_wp2
      go_ret
      exact ⟨_, _, _, _, rfl, I5, by omega, B5⟩
end Go.Proofs.Ytpcdachkmekjgaa

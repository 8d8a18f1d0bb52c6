/- The contracts of the draws of DescriptorToBytes' and DescriptorFromBytes' arguments. -/
import Derived.Test.YtecelofoffdjlaaDrawD2
import Derived.Test.YtecelofoffdjlaaByt
namespace Go.Proofs.Ytecelofoffdjlaa
open Go.RowKit
set_option linter.unusedSimpArgs false
set_option linter.unusedVariables false
set_option maxHeartbeats 1000000 in
theorem s_DrawDescriptorToBytes (A : Option Addr) (n c : Nat) (bs : List Int) (B : Nat) (w : World) (h : BytesAt w B A n c bs) (hB : B ≤ w.heap.size) :
    Calls Try.prog 53 #[.slice A n c] w (DrewDesc w) := by
  go_enter Try.func53, Try.ntmps53
  go_wp2_with fail
  have bA := (Below.refl w.heap.size w).alloc (Nat.le_refl _) (.cells #[.int .i64 0, .int .i64 0, .int .i64 0, .int .i64 0, .bool false] 26)
  refine (s_l01From _ _ _ _ B _ (h.below' hB bA) (by simp; omega)).mono ?_
  rintro e w1 ⟨g, rfl, S1, hg, hb⟩
  simp at hg
  have R1 := (hb.block w.heap.size (by simp)).trans (heap_alloc_new w _)
  have B1 := bA.trans (hb.mono (by simp))
  clear hb bA h
  go_wp2_with fail
  refine (s_l08DrawAny g B _ S1).mono ?_
  rintro e w2 ⟨nd, k, sz, du, ch, rfl, S2, g2⟩
  have R2 := zkeep R1 g2 (by omega)
  have B2 := B1.trans (grown_below g2 B1.size (fun q hq => by injection hq with hq; omega))
  obtain ⟨d0, d1, d2, d3, d4⟩ := desc_cells R2
  have k0 := frozen_of_row _ _ 0 _ _ R2
  have k1 := frozen_of_row _ _ 1 _ _ R2
  have k2 := frozen_of_row _ _ 2 _ _ R2
  have k3 := frozen_of_row _ _ 3 _ _ R2
  have k4 := frozen_of_row _ _ 4 _ _ R2
  have RR := Lib.hid (five_heap (v0 := .int .i64 nd) (v1 := .int .i64 k) (v2 := .int .i64 sz) (v3 := .int .i64 du) (v4 := .bool ch) R2)
  have BB := Lib.hid (below_five (g := w.heap.size) (v0 := .int .i64 nd) (v1 := .int .i64 k) (v2 := .int .i64 sz) (v3 := .int .i64 du) (v4 := .bool ch) B2 (Nat.le_refl _))
  clear R1 R2 B1 B2 S1 S2 g2
  go_wp2
  have R := RR.out; have BW := BB.out
  clear RR BB d0 d1 d2 d3 d4 k0 k1 k2 k3 k4
  revert R BW
  generalize World.setCell _ _ _ = WF
  intro R BW
  obtain ⟨e0, e1, e2, e3, e4⟩ := desc_cells R
  exact bodyPost_ret (v := .agg #[.int .i64 nd, .int .i64 k, .int .i64 sz, .int .i64 du, .bool ch]) (by simp [results, Try.results53, go_sem, e0, e1, e2, e3, e4]) rfl ⟨_, _, _, _, _, rfl, BW⟩
def DrewInts (w : World) (e : Ending) (w' : World) : Prop := ∃ (A : Option Addr) (n c : Nat) (xs : List Int), e = .returned (.slice A n c) ∧ IntsAt w' w'.heap.size A n c xs ∧ Below w.heap.size w w'
set_option maxHeartbeats 2000000 in
theorem s_DrawDescriptorFromBytes (A : Option Addr) (n c : Nat) (bs : List Int) (B : Nat) (w : World) (h : BytesAt w B A n c bs) (hB : B ≤ w.heap.size) :
    Calls Try.prog 54 #[.slice A n c] w (DrewInts w) := by
  go_enter Try.func54, Try.ntmps54
  go_wp2_with fail
  refine (s_l01From _ _ _ _ B _ h hB).mono ?_
  rintro e w1 ⟨g, rfl, S1, hg, hb⟩
  clear h
  go_wp2_with fail
  refine (s_l08Draw g B _ S1).mono ?_
  rintro e w2 ⟨nd, k, sz, du, ch, rfl, ⟨k0, k3, hz0, hz5, u0, u1⟩, S2, g2⟩
  have B2 := hb.trans (grown_below g2 hb.size (fun q hq => by injection hq with hq; omega))
  clear S1 g2 hb
  go_wp2_with fail
  refine (s_l08Bytes nd k sz du ch _ k0 k3 hz0 (by omega) u0 u1).mono ?_
  rintro e w3 ⟨v3, rfl, o3, b3⟩
  have S3 := S2.below b3
  have l3 := S2.lt
  have B3 := B2.trans (b3.mono B2.size)
  have z3 := b3.size
  have hL : (descL nd k sz du ch).length = 5 := rfl
  generalize descL nd k sz du ch = xs at o3 hL
  clear S2 B2 b3
  have hne : v3.ownBlock ≠ some g := fun e => by have := (o3.lt g e).1; omega
  go_wp2_with fail
  refine (s_l01Next g B 10 _ S3).mono ?_
  rintro e w4 ⟨r, rfl, _, _, S4, g4⟩
  have o4 := o3.kept g4 (.inr hne)
  have B4 := B3.trans (grown_below g4 B3.size (fun q hq => by injection hq with hq; omega))
  have z4 := g4.size
  clear S3 o3 B3 g4
  obtain ⟨A4, c4, rfl, i4⟩ := o4.ints (by omega)
  rw [hL] at i4 o4
  rw [hL] at hne
  rw [hL]
  have hc5 := i4.le
  have hc4 : (4 : Int) ≤ (c4 : Int) := (by omega)
  have hw2 : w.heap.size ≤ w2.heap.size := (by omega)
  cases h0 : (r == 0)
  · cases h1 : (r == 1)
    · cases h2 : (r == 2)
      · go_wp2
        go_ret
        exact ⟨_, _, _, _, rfl, i4, B4⟩
      · go_wp2_with (at_builtin; refine wpList_app _ rfl _ _ 29 rfl w2.heap.size Try.underlying29 int_info _ xs rfl (o4.alloc _) _ _ 1 1 [(0 : Int)] rfl (lit_ints w4 [(0 : Int)] 2 (by simp)) (by omega) (by simp; omega) ?_; intro v' w' hown' hg' _; obtain ⟨A9, c9, rfl, i9⟩ := hown'.ints (by simp; omega))
        go_ret
        exact ⟨_, _, _, xs ++ [0], rfl, (by have h9 := i9; rw [List.length_append, hL] at h9; exact h9), app_below' B4 hw2 (by omega) o4 hg'⟩
    · go_wp2
      go_ret
      exact ⟨_, _, _, _, rfl, i4.cutTo 4 (by omega), B4⟩
  · go_wp2_with fail
    refine (s_l01Next g B 5 _ S4).mono ?_
    rintro e w5 ⟨q0, rfl, q00, q01, S5, g5⟩
    have o5 := o4.kept g5 (.inr hne)
    have B5 := B4.trans (grown_below g5 B4.size (fun q hq => by injection hq with hq; omega))
    obtain ⟨q, rfl⟩ := nat_of' q0 q00
    have q5 : (q : Int) < 5 := (by omega)
    clear S4 o4 i4 B4 g5 q01
    go_wp2_with fail
    refine (s_l01Next g B 257 _ S5).mono ?_
    rintro e w6 ⟨r2, rfl, _, _, S6, g6⟩
    have o6 := o5.kept g6 (.inr hne)
    have B6 := B5.trans (grown_below g6 B5.size (fun q hq => by injection hq with hq; omega))
    clear S5 S6 o5 B5 g6
    obtain ⟨A', c', e', hnc, hcm, hA⟩ := o6.form
    injection e' with e1 e2 e3
    subst e1 e3
    rcases hA with ⟨_, hx, _⟩ | ⟨ob, rfl, hob, hlt⟩
    · rw [hx] at hL; simp at hL
    have hown : w6.ownsRow w2.heap.size 2 1 (.slice (some ⟨ob, 0, none⟩) 5 c4) 5 (xs.map (Value.int .i64)) := by
      have h9 := o6; unfold IOwn at h9; rwa [hL] at h9
    have hoc : w6.cell? ⟨ob, q, none⟩ = some (.int .i64 (xs.getD q 0)) := by
      rw [hown.cellAt q (by omega), List.getElem?_map, List.getElem?_eq_getElem (by omega)]
      simp [List.getD_eq_getElem?_getD, List.getElem?_eq_getElem (show q < xs.length by omega)]
    have hof := hown.frozenAt q
    obtain ⟨hst, _⟩ := hown.stored q (.int .i64 r2)
    rw [← List.map_set] at hst
    have hst' : IOwn (w6.setCell ⟨ob, q, none⟩ (.int .i64 r2)) w2.heap.size (.slice (some ⟨ob, 0, none⟩) 5 c4) (xs.set q r2) := by
      unfold IOwn; rw [List.length_set, hL]; exact hst
    have HST := Lib.hid hst'
    have BB := Lib.hid (B6.setCell (p := ⟨ob, q, none⟩) (by show w.heap.size ≤ ob; omega) (.int .i64 r2))
    obtain ⟨y, hy⟩ : ∃ y, y = xs.getD q 0 := ⟨_, rfl⟩
    rw [← hy] at hoc
    clear hst hst' hown o6 B6 hy e2 hob hlt hnc hcm
    go_wp2
    go_ret
    obtain ⟨A9, c9, e9, i9⟩ := HST.out.ints (by rw [List.length_set]; omega)
    injection e9 with e91 e92 e93
    subst e91 e93
    rw [List.length_set, hL] at i9
    exact ⟨_, _, _, _, rfl, i9, BB.out⟩
end Go.Proofs.Ytecelofoffdjlaa

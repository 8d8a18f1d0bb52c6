/- The contracts of l08DrawAny, DrawDescriptorToBytes, DrawDescriptorFromBytes. -/
import Derived.Test.YtecelofoffdjlaaDrawD
namespace Go.Proofs.Ytecelofoffdjlaa
open Go.RowKit
set_option linter.unusedSimpArgs false
set_option linter.unusedVariables false
theorem DS.alloc {w W : World} {B g b : Nat} {nd k sz du : Int} {ch : Bool} (h : DS w B g b nd k sz du ch W) (hl : g < w.heap.size) (hb : w.heap.size < b) (o : Obj) : DS w B g b nd k sz du ch (W.alloc o) :=
  ⟨h.s.alloc o, grown_alloc h.g o, (Below.heap_alloc W o _ (Below.ltK h.rr)).trans h.rr, (Below.heap_alloc W o _ (Below.ltK h.rb)).trans h.rb⟩
theorem getA (q : Nat) (h : (q : Int) < 3) : ∃ v : Int, (#[Value.int .i64 (-1), Value.int .i64 31, Value.int .i64 32] : Array Value)[q]? = some (.int .i64 v) := by
  have h' : q < 3 := by omega
  match q, h' with
  | 0, _ => exact ⟨-1, rfl⟩
  | 1, _ => exact ⟨31, rfl⟩
  | 2, _ => exact ⟨32, rfl⟩
theorem getB (q : Nat) (h : (q : Int) < 4) : ∃ v : Int, (#[Value.int .i64 (-1), Value.int .i64 0, Value.int .i64 32, Value.int .i64 33] : Array Value)[q]? = some (.int .i64 v) := by
  have h' : q < 4 := by omega
  match q, h' with
  | 0, _ => exact ⟨-1, rfl⟩
  | 1, _ => exact ⟨0, rfl⟩
  | 2, _ => exact ⟨32, rfl⟩
  | 3, _ => exact ⟨33, rfl⟩
theorem getC (q : Nat) (h : (q : Int) < 4) (c : Int) : ∃ v : Int, (#[Value.int .i64 0, Value.int .i64 c, Value.int .i64 1000, Value.int .i64 1001] : Array Value)[q]? = some (.int .i64 v) := by
  have h' : q < 4 := by omega
  match q, h' with
  | 0, _ => exact ⟨0, rfl⟩
  | 1, _ => exact ⟨c, rfl⟩
  | 2, _ => exact ⟨1000, rfl⟩
  | 3, _ => exact ⟨1001, rfl⟩
def DrewA (B g : Nat) (w : World) (e : Ending) (w' : World) : Prop := ∃ (nd k sz du : Int) (ch : Bool), e = .returned (.agg #[.int .i64 nd, .int .i64 k, .int .i64 sz, .int .i64 du, .bool ch]) ∧ Src w' B g ∧ w.grownBy w' (some g)
set_option maxHeartbeats 4000000 in
theorem s_l08DrawAny (g B : Nat) (w : World) (h : Src w B g) :
    Calls Try.prog 105 #[.pointer (some ⟨g, 0, none⟩)] w (DrewA B g w) := by
  have hl := h.lt
  have hBg := h.1
  go_enter Try.func105, Try.ntmps105
  go_wp2_with fail
  have S0 := h.alloc (.cells #[.int .i64 0, .int .i64 0, .int .i64 0, .int .i64 0, .bool false] 26)
  have G0 : w.grownBy (w.alloc (.cells #[.int .i64 0, .int .i64 0, .int .i64 0, .int .i64 0, .bool false] 26)) (some g) := grown_alloc (World.grownBy.refl _ _) _
  have R0 := heap_alloc_new w (.cells #[.int .i64 0, .int .i64 0, .int .i64 0, .int .i64 0, .bool false] 26)
  refine (s_l08Draw g B _ S0).mono ?_
  rintro e w1 ⟨nd, k, sz, du, ch, rfl, ⟨k0, k3, hz0, hz5, u0, u1⟩, S1, g1⟩
  have G1 := grown_trans' G0 g1 (.inl rfl)
  have R1 := zkeep R0 g1 (by omega)
  have z3 := Below.ltK R1
  clear S0 G0 R0 g1 h
  go_wp2_with fail
  have D0 : DS w B g w1.heap.size nd k sz du ch (w1.alloc (.cells #[.int .i64 nd, .int .i64 k, .int .i64 sz, .int .i64 du, .bool ch] 26)) :=
    ⟨S1.alloc _, grown_alloc G1 _, (Below.heap_alloc w1 _ _ z3).trans R1, heap_alloc_new w1 _⟩
  clear S1 G1 R1
  generalize w1.alloc _ = W at D0 ⊢
  generalize w1.heap.size = b at D0 z3 ⊢
  refine (s_l01Next g B 30 _ D0.s).mono ?_
  rintro e w2 ⟨r, rfl, r0, r1, S2, g2⟩
  have D2 := D0.next hl z3 S2 g2
  clear D0 S2 g2 r1
  have hcz := cellsZ_bd (k := k) hz0 (by omega : sz ≤ 32)
  obtain ⟨d0, d1, d2, d3, d4⟩ := desc_cells D2.rb
  cases h0 : (r == 0)
  · cases h1 : (r == 1)
    · cases h2 : (r == 2)
      · cases h3 : (r == 3)
        · cases h4 : (r == 4)
          · go_upto_region 13 with fail
            clear d0 d1 d2 d3 d4
            have hD9 : ∃ nd k sz du ch, DS w B g b nd k sz du ch w2 := ⟨_, _, _, _, _, D2⟩
            clear D2
            obtain ⟨nd, k, sz, du, ch, D9⟩ := hD9
            obtain ⟨d0, d1, d2, d3, d4⟩ := desc_cells D9.rb
            obtain ⟨e0, e1, e2, e3, e4⟩ := desc_cells D9.rr
            have l0 := frozen_of_row _ _ 0 _ _ D9.rr
            have l1 := frozen_of_row _ _ 1 _ _ D9.rr
            have l2 := frozen_of_row _ _ 2 _ _ D9.rr
            have l3 := frozen_of_row _ _ 3 _ _ D9.rr
            have l4 := frozen_of_row _ _ 4 _ _ D9.rr
            have RR := Lib.hid (five_heap (v0 := .int .i64 nd) (v1 := .int .i64 k) (v2 := .int .i64 sz) (v3 := .int .i64 du) (v4 := .bool ch) D9.rr)
            have SS := Lib.hid (src_set (src_set (src_set (src_set (src_set D9.s (b := w.heap.size) (by omega) (by omega) 0 (.int .i64 nd)) (b := w.heap.size) (by omega) (by omega) 1 (.int .i64 k)) (b := w.heap.size) (by omega) (by omega) 2 (.int .i64 sz)) (b := w.heap.size) (by omega) (by omega) 3 (.int .i64 du)) (b := w.heap.size) (by omega) (by omega) 4 (.bool ch))
            have GG := Lib.hid (grown_set (p := ⟨w.heap.size, 4, none⟩) (grown_set (p := ⟨w.heap.size, 3, none⟩) (grown_set (p := ⟨w.heap.size, 2, none⟩) (grown_set (p := ⟨w.heap.size, 1, none⟩) (grown_set (p := ⟨w.heap.size, 0, none⟩) D9.g (.inr (Nat.le_refl _)) (.int .i64 nd)) (.inr (Nat.le_refl _)) (.int .i64 k)) (.inr (Nat.le_refl _)) (.int .i64 sz)) (.inr (Nat.le_refl _)) (.int .i64 du)) (.inr (Nat.le_refl _)) (.bool ch))
            clear D9
            go_wp2
            have R := RR.out; have S := SS.out; have G := GG.out
            clear RR SS GG d0 d1 d2 d3 d4 e0 e1 e2 e3 e4 l0 l1 l2 l3 l4
            revert R S G
            generalize World.setCell _ _ _ = WF
            intro R S G
            obtain ⟨e0, e1, e2, e3, e4⟩ := desc_cells R
            exact bodyPost_ret (v := .agg #[.int .i64 nd, .int .i64 k, .int .i64 sz, .int .i64 du, .bool ch]) (by simp [results, Try.results105, go_sem, e0, e1, e2, e3, e4]) rfl ⟨_, _, _, _, _, rfl, S, G⟩
          · have kk := frozen_of_row _ _ 4 _ _ D2.rb
            have hE := Lib.hid (D2.set (i := 4) (v := .bool (!ch)) hl z3 hBg (set4 D2.rb))
            clear D2
            go_upto_region 13 with fail
            have hE' := hE.out
            clear hE d0 d1 d2 d3 d4 kk
            generalize World.setCell _ _ _ = W7 at hE' ⊢
            have hD9 : ∃ nd k sz du ch, DS w B g b nd k sz du ch W7 := ⟨_, _, _, _, _, hE'⟩
            clear hE'
            obtain ⟨nd, k, sz, du, ch, D9⟩ := hD9
            obtain ⟨d0, d1, d2, d3, d4⟩ := desc_cells D9.rb
            obtain ⟨e0, e1, e2, e3, e4⟩ := desc_cells D9.rr
            have l0 := frozen_of_row _ _ 0 _ _ D9.rr
            have l1 := frozen_of_row _ _ 1 _ _ D9.rr
            have l2 := frozen_of_row _ _ 2 _ _ D9.rr
            have l3 := frozen_of_row _ _ 3 _ _ D9.rr
            have l4 := frozen_of_row _ _ 4 _ _ D9.rr
            have RR := Lib.hid (five_heap (v0 := .int .i64 nd) (v1 := .int .i64 k) (v2 := .int .i64 sz) (v3 := .int .i64 du) (v4 := .bool ch) D9.rr)
            have SS := Lib.hid (src_set (src_set (src_set (src_set (src_set D9.s (b := w.heap.size) (by omega) (by omega) 0 (.int .i64 nd)) (b := w.heap.size) (by omega) (by omega) 1 (.int .i64 k)) (b := w.heap.size) (by omega) (by omega) 2 (.int .i64 sz)) (b := w.heap.size) (by omega) (by omega) 3 (.int .i64 du)) (b := w.heap.size) (by omega) (by omega) 4 (.bool ch))
            have GG := Lib.hid (grown_set (p := ⟨w.heap.size, 4, none⟩) (grown_set (p := ⟨w.heap.size, 3, none⟩) (grown_set (p := ⟨w.heap.size, 2, none⟩) (grown_set (p := ⟨w.heap.size, 1, none⟩) (grown_set (p := ⟨w.heap.size, 0, none⟩) D9.g (.inr (Nat.le_refl _)) (.int .i64 nd)) (.inr (Nat.le_refl _)) (.int .i64 k)) (.inr (Nat.le_refl _)) (.int .i64 sz)) (.inr (Nat.le_refl _)) (.int .i64 du)) (.inr (Nat.le_refl _)) (.bool ch))
            clear D9
            go_wp2
            have R := RR.out; have S := SS.out; have G := GG.out
            clear RR SS GG d0 d1 d2 d3 d4 e0 e1 e2 e3 e4 l0 l1 l2 l3 l4
            revert R S G
            generalize World.setCell _ _ _ = WF
            intro R S G
            obtain ⟨e0, e1, e2, e3, e4⟩ := desc_cells R
            exact bodyPost_ret (v := .agg #[.int .i64 nd, .int .i64 k, .int .i64 sz, .int .i64 du, .bool ch]) (by simp [results, Try.results105, go_sem, e0, e1, e2, e3, e4]) rfl ⟨_, _, _, _, _, rfl, S, G⟩
        · go_wp2_with (go_at_call 65; refine (s_l08Cells k sz _ hz0 (by omega)).mono ?_; rintro e w' ⟨rfl, rfl⟩)
          have DA := D2.alloc hl z3 (.cells #[.int .i64 0, .int .i64 (cellsZ k sz + 20 - 1), .int .i64 1000, .int .i64 1001] 2)
          refine (s_l01Next g B 4 _ DA.s).mono ?_
          rintro e w5 ⟨r5, rfl, r50, r51, S5, g5⟩
          have D5 := DA.next hl z3 S5 g5
          have hZ := zkeep (heap_alloc_new w2 (.cells #[.int .i64 0, .int .i64 (cellsZ k sz + 20 - 1), .int .i64 1000, .int .i64 1001] 2)) g5 (by have := D2.s.lt; omega)
          obtain ⟨q5, rfl⟩ := nat_of' r5 r50
          have q50 : (0 : Int) ≤ (q5 : Int) := r50
          have q51 : (q5 : Int) < 4 := (by omega)
          obtain ⟨v5, hv5⟩ := getC q5 q51 (cellsZ k sz + 20 - 1)
          have hc5 := row_get hZ hv5
          clear DA S5 g5 hZ hv5 r51 d0 d1 d2 d3 d4 D2
          obtain ⟨d0, d1, d2, d3, d4⟩ := desc_cells D5.rb
          have kk := frozen_of_row _ _ 3 _ _ D5.rb
          have hE := Lib.hid (D5.set (i := 3) (v := .int .i64 v5) hl z3 hBg (set3 D5.rb))
          clear D5
          go_upto_region 13 with fail
          have hE' := hE.out
          clear hE d0 d1 d2 d3 d4 kk hc5
          generalize World.setCell _ _ _ = W7 at hE' ⊢
          have hD9 : ∃ nd k sz du ch, DS w B g b nd k sz du ch W7 := ⟨_, _, _, _, _, hE'⟩
          clear hE'
          obtain ⟨nd, k, sz, du, ch, D9⟩ := hD9
          obtain ⟨d0, d1, d2, d3, d4⟩ := desc_cells D9.rb
          obtain ⟨e0, e1, e2, e3, e4⟩ := desc_cells D9.rr
          have l0 := frozen_of_row _ _ 0 _ _ D9.rr
          have l1 := frozen_of_row _ _ 1 _ _ D9.rr
          have l2 := frozen_of_row _ _ 2 _ _ D9.rr
          have l3 := frozen_of_row _ _ 3 _ _ D9.rr
          have l4 := frozen_of_row _ _ 4 _ _ D9.rr
          have RR := Lib.hid (five_heap (v0 := .int .i64 nd) (v1 := .int .i64 k) (v2 := .int .i64 sz) (v3 := .int .i64 du) (v4 := .bool ch) D9.rr)
          have SS := Lib.hid (src_set (src_set (src_set (src_set (src_set D9.s (b := w.heap.size) (by omega) (by omega) 0 (.int .i64 nd)) (b := w.heap.size) (by omega) (by omega) 1 (.int .i64 k)) (b := w.heap.size) (by omega) (by omega) 2 (.int .i64 sz)) (b := w.heap.size) (by omega) (by omega) 3 (.int .i64 du)) (b := w.heap.size) (by omega) (by omega) 4 (.bool ch))
          have GG := Lib.hid (grown_set (p := ⟨w.heap.size, 4, none⟩) (grown_set (p := ⟨w.heap.size, 3, none⟩) (grown_set (p := ⟨w.heap.size, 2, none⟩) (grown_set (p := ⟨w.heap.size, 1, none⟩) (grown_set (p := ⟨w.heap.size, 0, none⟩) D9.g (.inr (Nat.le_refl _)) (.int .i64 nd)) (.inr (Nat.le_refl _)) (.int .i64 k)) (.inr (Nat.le_refl _)) (.int .i64 sz)) (.inr (Nat.le_refl _)) (.int .i64 du)) (.inr (Nat.le_refl _)) (.bool ch))
          clear D9
          go_wp2
          have R := RR.out; have S := SS.out; have G := GG.out
          clear RR SS GG d0 d1 d2 d3 d4 e0 e1 e2 e3 e4 l0 l1 l2 l3 l4
          revert R S G
          generalize World.setCell _ _ _ = WF
          intro R S G
          obtain ⟨e0, e1, e2, e3, e4⟩ := desc_cells R
          exact bodyPost_ret (v := .agg #[.int .i64 nd, .int .i64 k, .int .i64 sz, .int .i64 du, .bool ch]) (by simp [results, Try.results105, go_sem, e0, e1, e2, e3, e4]) rfl ⟨_, _, _, _, _, rfl, S, G⟩
      · go_wp2_with (go_at_call 65; refine (s_l08Cells k sz _ hz0 (by omega)).mono ?_; rintro e w' ⟨rfl, rfl⟩)
        have DA := D2.alloc hl z3 (.cells #[.int .i64 (-1), .int .i64 0, .int .i64 32, .int .i64 33] 2)
        refine (s_l01Next g B 4 _ DA.s).mono ?_
        rintro e w5 ⟨r5, rfl, r50, r51, S5, g5⟩
        have D5 := DA.next hl z3 S5 g5
        have hZ := zkeep (heap_alloc_new w2 (.cells #[.int .i64 (-1), .int .i64 0, .int .i64 32, .int .i64 33] 2)) g5 (by have := D2.s.lt; omega)
        obtain ⟨q5, rfl⟩ := nat_of' r5 r50
        have q50 : (0 : Int) ≤ (q5 : Int) := r50
        have q51 : (q5 : Int) < 4 := (by omega)
        obtain ⟨v5, hv5⟩ := getB q5 q51
        have hc5 := row_get hZ hv5
        clear DA S5 g5 hZ hv5 r51 d0 d1 d2 d3 d4 D2
        obtain ⟨d0, d1, d2, d3, d4⟩ := desc_cells D5.rb
        have kk := frozen_of_row _ _ 2 _ _ D5.rb
        have hE := Lib.hid (D5.set (i := 2) (v := .int .i64 v5) hl z3 hBg (set2 D5.rb))
        clear D5
        go_upto_region 13 with fail
        have hE' := hE.out
        clear hE d0 d1 d2 d3 d4 kk hc5
        generalize World.setCell _ _ _ = W7 at hE' ⊢
        have hD9 : ∃ nd k sz du ch, DS w B g b nd k sz du ch W7 := ⟨_, _, _, _, _, hE'⟩
        clear hE'
        obtain ⟨nd, k, sz, du, ch, D9⟩ := hD9
        obtain ⟨d0, d1, d2, d3, d4⟩ := desc_cells D9.rb
        obtain ⟨e0, e1, e2, e3, e4⟩ := desc_cells D9.rr
        have l0 := frozen_of_row _ _ 0 _ _ D9.rr
        have l1 := frozen_of_row _ _ 1 _ _ D9.rr
        have l2 := frozen_of_row _ _ 2 _ _ D9.rr
        have l3 := frozen_of_row _ _ 3 _ _ D9.rr
        have l4 := frozen_of_row _ _ 4 _ _ D9.rr
        have RR := Lib.hid (five_heap (v0 := .int .i64 nd) (v1 := .int .i64 k) (v2 := .int .i64 sz) (v3 := .int .i64 du) (v4 := .bool ch) D9.rr)
        have SS := Lib.hid (src_set (src_set (src_set (src_set (src_set D9.s (b := w.heap.size) (by omega) (by omega) 0 (.int .i64 nd)) (b := w.heap.size) (by omega) (by omega) 1 (.int .i64 k)) (b := w.heap.size) (by omega) (by omega) 2 (.int .i64 sz)) (b := w.heap.size) (by omega) (by omega) 3 (.int .i64 du)) (b := w.heap.size) (by omega) (by omega) 4 (.bool ch))
        have GG := Lib.hid (grown_set (p := ⟨w.heap.size, 4, none⟩) (grown_set (p := ⟨w.heap.size, 3, none⟩) (grown_set (p := ⟨w.heap.size, 2, none⟩) (grown_set (p := ⟨w.heap.size, 1, none⟩) (grown_set (p := ⟨w.heap.size, 0, none⟩) D9.g (.inr (Nat.le_refl _)) (.int .i64 nd)) (.inr (Nat.le_refl _)) (.int .i64 k)) (.inr (Nat.le_refl _)) (.int .i64 sz)) (.inr (Nat.le_refl _)) (.int .i64 du)) (.inr (Nat.le_refl _)) (.bool ch))
        clear D9
        go_wp2
        have R := RR.out; have S := SS.out; have G := GG.out
        clear RR SS GG d0 d1 d2 d3 d4 e0 e1 e2 e3 e4 l0 l1 l2 l3 l4
        revert R S G
        generalize World.setCell _ _ _ = WF
        intro R S G
        obtain ⟨e0, e1, e2, e3, e4⟩ := desc_cells R
        exact bodyPost_ret (v := .agg #[.int .i64 nd, .int .i64 k, .int .i64 sz, .int .i64 du, .bool ch]) (by simp [results, Try.results105, go_sem, e0, e1, e2, e3, e4]) rfl ⟨_, _, _, _, _, rfl, S, G⟩
    · go_wp2_with fail
      refine (s_l01Next g B 6 _ D2.s).mono ?_
      rintro e w5 ⟨r5, rfl, r50, r51, S5, g5⟩
      have D5 := D2.next hl z3 S5 g5
      have hr5 : r5 ≤ 5 := (by omega)
      clear D2 S5 g5 r51 d0 d1 d2 d3 d4
      obtain ⟨d0, d1, d2, d3, d4⟩ := desc_cells D5.rb
      have kk := frozen_of_row _ _ 1 _ _ D5.rb
      have hE := Lib.hid (D5.set (i := 1) (v := .int .i64 (r5 - 1)) hl z3 hBg (set1 D5.rb))
      clear D5
      go_upto_region 13 with fail
      have hE' := hE.out
      clear hE d0 d1 d2 d3 d4 kk
      generalize World.setCell _ _ _ = W7 at hE' ⊢
      have hD9 : ∃ nd k sz du ch, DS w B g b nd k sz du ch W7 := ⟨_, _, _, _, _, hE'⟩
      clear hE'
      obtain ⟨nd, k, sz, du, ch, D9⟩ := hD9
      obtain ⟨d0, d1, d2, d3, d4⟩ := desc_cells D9.rb
      obtain ⟨e0, e1, e2, e3, e4⟩ := desc_cells D9.rr
      have l0 := frozen_of_row _ _ 0 _ _ D9.rr
      have l1 := frozen_of_row _ _ 1 _ _ D9.rr
      have l2 := frozen_of_row _ _ 2 _ _ D9.rr
      have l3 := frozen_of_row _ _ 3 _ _ D9.rr
      have l4 := frozen_of_row _ _ 4 _ _ D9.rr
      have RR := Lib.hid (five_heap (v0 := .int .i64 nd) (v1 := .int .i64 k) (v2 := .int .i64 sz) (v3 := .int .i64 du) (v4 := .bool ch) D9.rr)
      have SS := Lib.hid (src_set (src_set (src_set (src_set (src_set D9.s (b := w.heap.size) (by omega) (by omega) 0 (.int .i64 nd)) (b := w.heap.size) (by omega) (by omega) 1 (.int .i64 k)) (b := w.heap.size) (by omega) (by omega) 2 (.int .i64 sz)) (b := w.heap.size) (by omega) (by omega) 3 (.int .i64 du)) (b := w.heap.size) (by omega) (by omega) 4 (.bool ch))
      have GG := Lib.hid (grown_set (p := ⟨w.heap.size, 4, none⟩) (grown_set (p := ⟨w.heap.size, 3, none⟩) (grown_set (p := ⟨w.heap.size, 2, none⟩) (grown_set (p := ⟨w.heap.size, 1, none⟩) (grown_set (p := ⟨w.heap.size, 0, none⟩) D9.g (.inr (Nat.le_refl _)) (.int .i64 nd)) (.inr (Nat.le_refl _)) (.int .i64 k)) (.inr (Nat.le_refl _)) (.int .i64 sz)) (.inr (Nat.le_refl _)) (.int .i64 du)) (.inr (Nat.le_refl _)) (.bool ch))
      clear D9
      go_wp2
      have R := RR.out; have S := SS.out; have G := GG.out
      clear RR SS GG d0 d1 d2 d3 d4 e0 e1 e2 e3 e4 l0 l1 l2 l3 l4
      revert R S G
      generalize World.setCell _ _ _ = WF
      intro R S G
      obtain ⟨e0, e1, e2, e3, e4⟩ := desc_cells R
      exact bodyPost_ret (v := .agg #[.int .i64 nd, .int .i64 k, .int .i64 sz, .int .i64 du, .bool ch]) (by simp [results, Try.results105, go_sem, e0, e1, e2, e3, e4]) rfl ⟨_, _, _, _, _, rfl, S, G⟩
  · go_wp2_with (go_at_call 65; refine (s_l08Cells k sz _ hz0 (by omega)).mono ?_; rintro e w' ⟨rfl, rfl⟩)
    have DA := D2.alloc hl z3 (.cells #[.int .i64 (-1), .int .i64 31, .int .i64 32] 2)
    refine (s_l01Next g B 3 _ DA.s).mono ?_
    rintro e w5 ⟨r5, rfl, r50, r51, S5, g5⟩
    have D5 := DA.next hl z3 S5 g5
    have hZ := zkeep (heap_alloc_new w2 (.cells #[.int .i64 (-1), .int .i64 31, .int .i64 32] 2)) g5 (by have := D2.s.lt; omega)
    obtain ⟨q5, rfl⟩ := nat_of' r5 r50
    have q50 : (0 : Int) ≤ (q5 : Int) := r50
    have q51 : (q5 : Int) < 3 := (by omega)
    obtain ⟨v5, hv5⟩ := getA q5 q51
    have hc5 := row_get hZ hv5
    clear DA S5 g5 hZ hv5 r51 d0 d1 d2 d3 d4 D2
    obtain ⟨d0, d1, d2, d3, d4⟩ := desc_cells D5.rb
    have kk := frozen_of_row _ _ 0 _ _ D5.rb
    have hE := Lib.hid (D5.set (i := 0) (v := .int .i64 v5) hl z3 hBg (set0 D5.rb))
    clear D5
    go_upto_region 13 with fail
    have hE' := hE.out
    clear hE d0 d1 d2 d3 d4 kk hc5
    generalize World.setCell _ _ _ = W7 at hE' ⊢
    have hD9 : ∃ nd k sz du ch, DS w B g b nd k sz du ch W7 := ⟨_, _, _, _, _, hE'⟩
    clear hE'
    obtain ⟨nd, k, sz, du, ch, D9⟩ := hD9
    obtain ⟨d0, d1, d2, d3, d4⟩ := desc_cells D9.rb
    obtain ⟨e0, e1, e2, e3, e4⟩ := desc_cells D9.rr
    have l0 := frozen_of_row _ _ 0 _ _ D9.rr
    have l1 := frozen_of_row _ _ 1 _ _ D9.rr
    have l2 := frozen_of_row _ _ 2 _ _ D9.rr
    have l3 := frozen_of_row _ _ 3 _ _ D9.rr
    have l4 := frozen_of_row _ _ 4 _ _ D9.rr
    have RR := Lib.hid (five_heap (v0 := .int .i64 nd) (v1 := .int .i64 k) (v2 := .int .i64 sz) (v3 := .int .i64 du) (v4 := .bool ch) D9.rr)
    have SS := Lib.hid (src_set (src_set (src_set (src_set (src_set D9.s (b := w.heap.size) (by omega) (by omega) 0 (.int .i64 nd)) (b := w.heap.size) (by omega) (by omega) 1 (.int .i64 k)) (b := w.heap.size) (by omega) (by omega) 2 (.int .i64 sz)) (b := w.heap.size) (by omega) (by omega) 3 (.int .i64 du)) (b := w.heap.size) (by omega) (by omega) 4 (.bool ch))
    have GG := Lib.hid (grown_set (p := ⟨w.heap.size, 4, none⟩) (grown_set (p := ⟨w.heap.size, 3, none⟩) (grown_set (p := ⟨w.heap.size, 2, none⟩) (grown_set (p := ⟨w.heap.size, 1, none⟩) (grown_set (p := ⟨w.heap.size, 0, none⟩) D9.g (.inr (Nat.le_refl _)) (.int .i64 nd)) (.inr (Nat.le_refl _)) (.int .i64 k)) (.inr (Nat.le_refl _)) (.int .i64 sz)) (.inr (Nat.le_refl _)) (.int .i64 du)) (.inr (Nat.le_refl _)) (.bool ch))
    clear D9
    go_wp2
    have R := RR.out; have S := SS.out; have G := GG.out
    clear RR SS GG d0 d1 d2 d3 d4 e0 e1 e2 e3 e4 l0 l1 l2 l3 l4
    revert R S G
    generalize World.setCell _ _ _ = WF
    intro R S G
    obtain ⟨e0, e1, e2, e3, e4⟩ := desc_cells R
    exact bodyPost_ret (v := .agg #[.int .i64 nd, .int .i64 k, .int .i64 sz, .int .i64 du, .bool ch]) (by simp [results, Try.results105, go_sem, e0, e1, e2, e3, e4]) rfl ⟨_, _, _, _, _, rfl, S, G⟩
def DrewDesc (w : World) (e : Ending) (w' : World) : Prop := ∃ (nd k sz du : Int) (ch : Bool), e = .returned (.agg #[.int .i64 nd, .int .i64 k, .int .i64 sz, .int .i64 du, .bool ch]) ∧ Below w.heap.size w w'
end Go.Proofs.Ytecelofoffdjlaa

/- The draw of EmptyFrame's arguments. -/
import Derived.Test.YtecelofoffdjlaaDrawF2
import Derived.Deep.RegionHeld3
import Derived.RegionTactic
import Derived.BigRegion
namespace Go.Proofs.Ytecelofoffdjlaa
open Go.RowKit
set_option linter.unusedSimpArgs false
set_option linter.unusedVariables false
theorem two_other {w : World} {b h : Nat} {x y : Value} (hn : h ≠ b) : ((w.setCell ⟨b, 1, none⟩ x).setCell ⟨b, 4, none⟩ y).heap[h]? = w.heap[h]? := by
  rw [heap_setCell_other _ _ _ _ hn, heap_setCell_other _ _ _ _ hn]
def DrewDS (w : World) (e : Ending) (w' : World) : Prop := ∃ (nd k sz du : Int) (ch : Bool) (t m r s v : Int), e = .returned (.tuple #[.agg #[.int .i64 nd, .int .i64 k, .int .i64 sz, .int .i64 du, .bool ch], .agg #[.int .i64 t, .int .i64 m, .int .i64 r, .int .i64 s, .int .i64 v]]) ∧ Below w.heap.size w w'
set_option maxHeartbeats 4000000 in
theorem s_DrawEmptyFrame (A : Option Addr) (n c : Nat) (bs : List Int) (B : Nat) (w : World) (h : BytesAt w B A n c bs) (hB : B ≤ w.heap.size) :
    Calls Try.prog 60 #[.slice A n c] w (DrewDS w) := by
  go_enter Try.func60, Try.ntmps60
  go_wp2_with fail
  obtain ⟨x1, x2⟩ := alloc2 w (.cells #[.int .i64 0, .int .i64 0, .int .i64 0, .int .i64 0, .bool false] 26) (.cells #[.int .i64 0, .int .i64 0, .int .i64 0, .int .i64 0, .int .i64 0] 45)
  have bA := ((Below.refl w.heap.size w).alloc (Nat.le_refl _) (.cells #[.int .i64 0, .int .i64 0, .int .i64 0, .int .i64 0, .bool false] 26)).alloc (by simp) (.cells #[.int .i64 0, .int .i64 0, .int .i64 0, .int .i64 0, .int .i64 0] 45)
  generalize hW0 : World.alloc _ _ = W0 at x1 x2 bA ⊢
  have y0 : w.heap.size + 1 < W0.heap.size := Below.ltK x2
  have y1 : w.heap.size < w.heap.size + 1 := by omega
  clear hW0
  generalize w.heap.size + 1 = g1 at x2 y0 y1 ⊢
  refine (s_l01From _ _ _ _ B _ (h.below' hB bA) (by omega)).mono ?_
  rintro e w1 ⟨g, rfl, S1, hg, hb⟩
  have RD1 := (hb.block w.heap.size (by omega)).trans x1
  have RS1 := (hb.block g1 y0).trans x2
  have B1 := bA.trans (hb.mono bA.size)
  clear hb bA h x1 x2
  go_wp2_with fail
  refine (s_l08DrawAny g B _ S1).mono ?_
  rintro e w2 ⟨nd, k, sz, du, ch, rfl, S2, gg2⟩
  have RD2 := (Below.heap_alloc w2 (.cells #[.int .i64 nd, .int .i64 k, .int .i64 sz, .int .i64 du, .bool ch] 26) _ (Below.ltK (zkeep RD1 gg2 (by omega)))).trans (zkeep RD1 gg2 (by omega))
  have RS2 := (Below.heap_alloc w2 (.cells #[.int .i64 nd, .int .i64 k, .int .i64 sz, .int .i64 du, .bool ch] 26) _ (Below.ltK (zkeep RS1 gg2 (by omega)))).trans (zkeep RS1 gg2 (by omega))
  have RB2 := heap_alloc_new w2 (.cells #[.int .i64 nd, .int .i64 k, .int .i64 sz, .int .i64 du, .bool ch] 26)
  have B2 := (B1.trans (grown_below gg2 B1.size (fun q hq => by injection hq with hq; omega))).alloc (by have := gg2.size; have := B1.size; omega) (.cells #[.int .i64 nd, .int .i64 k, .int .i64 sz, .int .i64 du, .bool ch] 26)
  have S3 := S2.alloc (.cells #[.int .i64 nd, .int .i64 k, .int .i64 sz, .int .i64 du, .bool ch] 26)
  have l2 := S2.lt
  have z1 := Below.ltK (zkeep RS1 gg2 (by omega))
  clear RD1 RS1 B1 S1 S2 gg2
  go_wp2_with fail
  generalize w2.alloc _ = W2 at RD2 RS2 RB2 B2 S3 ⊢
  generalize w2.heap.size = b5 at RB2 l2 z1 ⊢
  refine (s_l04DrawAny g B _ S3).mono ?_
  rintro e w3 ⟨t, m, r, s, v, rfl, S4, gg3⟩
  have RD3 := zkeep RD2 gg3 (by omega)
  have RS3 := zkeep RS2 gg3 (by omega)
  have RB3 := zkeep RB2 gg3 (by omega)
  have B3 := B2.trans (grown_below gg3 B2.size (fun q hq => by injection hq with hq; omega))
  have l3 := S4.lt
  have z3 := Below.ltK RB3
  have RD4 := (Below.heap_alloc w3 (.cells #[.int .i64 t, .int .i64 m, .int .i64 r, .int .i64 s, .int .i64 v] 45) _ (by omega)).trans RD3
  have RS4 := (Below.heap_alloc w3 (.cells #[.int .i64 t, .int .i64 m, .int .i64 r, .int .i64 s, .int .i64 v] 45) _ (by omega)).trans RS3
  have RB4 := (Below.heap_alloc w3 (.cells #[.int .i64 t, .int .i64 m, .int .i64 r, .int .i64 s, .int .i64 v] 45) _ z3).trans RB3
  have RC4 := heap_alloc_new w3 (.cells #[.int .i64 t, .int .i64 m, .int .i64 r, .int .i64 s, .int .i64 v] 45)
  have B4 := B3.alloc (by omega) (.cells #[.int .i64 t, .int .i64 m, .int .i64 r, .int .i64 s, .int .i64 v] 45)
  have S5 := S4.alloc (.cells #[.int .i64 t, .int .i64 m, .int .i64 r, .int .i64 s, .int .i64 v] 45)
  clear RD2 RS2 RB2 B2 S3 S4 gg3 RD3 RS3 RB3 B3
  go_wp2_with fail
  generalize w3.alloc _ = W3 at RD4 RS4 RB4 RC4 B4 S5 ⊢
  generalize w3.heap.size = b6 at RC4 l3 z3 ⊢
  refine (s_l01Next g B 2 _ S5).mono ?_
  rintro e w4 ⟨q, rfl, _, _, S6, gg4⟩
  have RD := zkeep RD4 gg4 (by omega)
  have RS := zkeep RS4 gg4 (by omega)
  have RB := zkeep RB4 gg4 (by omega)
  have RC := zkeep RC4 gg4 (by omega)
  have BW := B4.trans (grown_below gg4 B4.size (fun q hq => by injection hq with hq; omega))
  clear RD4 RS4 RB4 RC4 B4 S5 S6 gg4
  cases hq : (q == 0)
  · go_upto_region 7 with fail
    obtain ⟨b0, b1, b2, b3, b4⟩ := desc_cells RB
    obtain ⟨c0, c1, c2, c3, c4⟩ := desc_cells RC
    obtain ⟨d0, d1, d2, d3, d4⟩ := desc_cells RD
    obtain ⟨e0, e1, e2, e3, e4⟩ := desc_cells RS
    have k0 := frozen_of_row _ _ 0 _ _ RD
    have k1 := frozen_of_row _ _ 1 _ _ RD
    have k2 := frozen_of_row _ _ 2 _ _ RD
    have k3 := frozen_of_row _ _ 3 _ _ RD
    have k4 := frozen_of_row _ _ 4 _ _ RD
    have l0 := frozen_of_row _ _ 0 _ _ RS
    have l1 := frozen_of_row _ _ 1 _ _ RS
    have l2 := frozen_of_row _ _ 2 _ _ RS
    have l3 := frozen_of_row _ _ 3 _ _ RS
    have l4 := frozen_of_row _ _ 4 _ _ RS
    have n1 : w.heap.size ≠ g1 := (by omega)
    have n2 : g1 ≠ w.heap.size := (by omega)
    have n3 : w.heap.size ≠ b5 := (by omega)
    have n4 : b5 ≠ w.heap.size := (by omega)
    have n5 : w.heap.size ≠ b6 := (by omega)
    have n6 : b6 ≠ w.heap.size := (by omega)
    have n7 : g1 ≠ b5 := (by omega)
    have n8 : b5 ≠ g1 := (by omega)
    have n9 : g1 ≠ b6 := (by omega)
    have n10 : b6 ≠ g1 := (by omega)
    have XA := Lib.hid (And.intro ((five_other (g := g1) (h := w.heap.size) (v0 := .int .i64 t) (v1 := .int .i64 m) (v2 := .int .i64 r) (v3 := .int .i64 s) (v4 := .int .i64 v) n1).trans (five_heap (v0 := .int .i64 nd) (v1 := .int .i64 k) (v2 := .int .i64 sz) (v3 := .int .i64 du) (v4 := .bool ch) RD)) (And.intro (five_heap (v0 := .int .i64 t) (v1 := .int .i64 m) (v2 := .int .i64 r) (v3 := .int .i64 s) (v4 := .int .i64 v) ((five_other (g := w.heap.size) (h := g1) (v0 := .int .i64 nd) (v1 := .int .i64 k) (v2 := .int .i64 sz) (v3 := .int .i64 du) (v4 := .bool ch) n2).trans RS)) (below_five (g := g1) (v0 := .int .i64 t) (v1 := .int .i64 m) (v2 := .int .i64 r) (v3 := .int .i64 s) (v4 := .int .i64 v) (below_five (g := w.heap.size) (v0 := .int .i64 nd) (v1 := .int .i64 k) (v2 := .int .i64 sz) (v3 := .int .i64 du) (v4 := .bool ch) BW (Nat.le_refl _)) (by omega))))
    have XB := Lib.hid (And.intro (five_heap (v0 := .int .i64 nd) (v1 := .int .i64 k) (v2 := .int .i64 sz) (v3 := .int .i64 du) (v4 := .bool ch) ((five_other (g := g1) (h := w.heap.size) (v0 := .int .i64 t) (v1 := .int .i64 m) (v2 := .int .i64 r) (v3 := .int .i64 s) (v4 := .int .i64 v) n1).trans RD)) (And.intro ((five_other (g := w.heap.size) (h := g1) (v0 := .int .i64 nd) (v1 := .int .i64 k) (v2 := .int .i64 sz) (v3 := .int .i64 du) (v4 := .bool ch) n2).trans (five_heap (v0 := .int .i64 t) (v1 := .int .i64 m) (v2 := .int .i64 r) (v3 := .int .i64 s) (v4 := .int .i64 v) RS)) (below_five (g := w.heap.size) (v0 := .int .i64 nd) (v1 := .int .i64 k) (v2 := .int .i64 sz) (v3 := .int .i64 du) (v4 := .bool ch) (below_five (g := g1) (v0 := .int .i64 t) (v1 := .int .i64 m) (v2 := .int .i64 r) (v3 := .int .i64 s) (v4 := .int .i64 v) BW (by omega)) (Nat.le_refl _))))
    clear RD RS RB RC BW
    go_region_held3 (fun w' => w'.cell? ⟨b5, 0, none⟩ = some (.int .i64 nd) ∧ w'.cell? ⟨b5, 1, none⟩ = some (.int .i64 k) ∧ w'.cell? ⟨b5, 2, none⟩ = some (.int .i64 sz) ∧ w'.cell? ⟨b5, 3, none⟩ = some (.int .i64 du) ∧ w'.cell? ⟨b5, 4, none⟩ = some (.bool ch) ∧ w'.cell? ⟨b6, 0, none⟩ = some (.int .i64 t) ∧ w'.cell? ⟨b6, 1, none⟩ = some (.int .i64 m) ∧ w'.cell? ⟨b6, 2, none⟩ = some (.int .i64 r) ∧ w'.cell? ⟨b6, 3, none⟩ = some (.int .i64 s) ∧ w'.cell? ⟨b6, 4, none⟩ = some (.int .i64 v)) (go_keep) (fail)
    all_goals go_wp2
    all_goals clear b0 b1 b2 b3 b4 c0 c1 c2 c3 c4 d0 d1 d2 d3 d4 e0 e1 e2 e3 e4 k0 k1 k2 k3 k4 l0 l1 l2 l3 l4
    have X := XA.out
    clear XA XB
    revert X
    generalize World.setCell _ _ _ = WF
    rintro ⟨RF, SF, BF⟩
    obtain ⟨b0, b1, b2, b3, b4⟩ := desc_cells RF
    obtain ⟨c0, c1, c2, c3, c4⟩ := desc_cells SF
    exact bodyPost_ret (v := .tuple #[.agg #[.int .i64 nd, .int .i64 k, .int .i64 sz, .int .i64 du, .bool ch], .agg #[.int .i64 t, .int .i64 m, .int .i64 r, .int .i64 s, .int .i64 v]]) (by simp [results, Try.results60, go_sem, b0, b1, b2, b3, b4, c0, c1, c2, c3, c4]) rfl ⟨_, _, _, _, _, _, _, _, _, _, rfl, BF.drew⟩
  · obtain ⟨c0, c1, c2, c3, c4⟩ := desc_cells RC
    have k1 := frozen_of_row _ _ 1 _ _ RC
    have k4 := frozen_of_row _ _ 4 _ _ RC
    have RC1 := set1 (v := .int .i64 0) RC
    have YY := Lib.hid (And.intro ((two_other (b := b6) (h := w.heap.size) (x := .int .i64 0) (y := .int .i64 4) (by omega)).trans RD) (And.intro ((two_other (b := b6) (h := g1) (x := .int .i64 0) (y := .int .i64 4) (by omega)).trans RS) (And.intro ((two_other (b := b6) (h := b5) (x := .int .i64 0) (y := .int .i64 4) (by omega)).trans RB) (And.intro (set4 (v := .int .i64 4) RC1) ((BW.setCell (p := ⟨b6, 1, none⟩) (by show w.heap.size ≤ b6; omega) (.int .i64 0)).setCell (p := ⟨b6, 4, none⟩) (by show w.heap.size ≤ b6; omega) (.int .i64 4))))))
    clear RD RS RB RC BW RC1
    go_upto_region 7 with fail
    obtain ⟨RD, RS, RB, RC, BW⟩ := YY.out
    clear YY c0 c1 c2 c3 c4 k1 k4
    generalize World.setCell _ _ _ = w9 at RD RS RB RC BW ⊢
    obtain ⟨b0, b1, b2, b3, b4⟩ := desc_cells RB
    obtain ⟨c0, c1, c2, c3, c4⟩ := desc_cells RC
    obtain ⟨d0, d1, d2, d3, d4⟩ := desc_cells RD
    obtain ⟨e0, e1, e2, e3, e4⟩ := desc_cells RS
    have k0 := frozen_of_row _ _ 0 _ _ RD
    have k1 := frozen_of_row _ _ 1 _ _ RD
    have k2 := frozen_of_row _ _ 2 _ _ RD
    have k3 := frozen_of_row _ _ 3 _ _ RD
    have k4 := frozen_of_row _ _ 4 _ _ RD
    have l0 := frozen_of_row _ _ 0 _ _ RS
    have l1 := frozen_of_row _ _ 1 _ _ RS
    have l2 := frozen_of_row _ _ 2 _ _ RS
    have l3 := frozen_of_row _ _ 3 _ _ RS
    have l4 := frozen_of_row _ _ 4 _ _ RS
    have n1 : w.heap.size ≠ g1 := (by omega)
    have n2 : g1 ≠ w.heap.size := (by omega)
    have n3 : w.heap.size ≠ b5 := (by omega)
    have n4 : b5 ≠ w.heap.size := (by omega)
    have n5 : w.heap.size ≠ b6 := (by omega)
    have n6 : b6 ≠ w.heap.size := (by omega)
    have n7 : g1 ≠ b5 := (by omega)
    have n8 : b5 ≠ g1 := (by omega)
    have n9 : g1 ≠ b6 := (by omega)
    have n10 : b6 ≠ g1 := (by omega)
    have XA := Lib.hid (And.intro ((five_other (g := g1) (h := w.heap.size) (v0 := .int .i64 t) (v1 := .int .i64 0) (v2 := .int .i64 r) (v3 := .int .i64 s) (v4 := .int .i64 4) n1).trans (five_heap (v0 := .int .i64 nd) (v1 := .int .i64 k) (v2 := .int .i64 sz) (v3 := .int .i64 du) (v4 := .bool ch) RD)) (And.intro (five_heap (v0 := .int .i64 t) (v1 := .int .i64 0) (v2 := .int .i64 r) (v3 := .int .i64 s) (v4 := .int .i64 4) ((five_other (g := w.heap.size) (h := g1) (v0 := .int .i64 nd) (v1 := .int .i64 k) (v2 := .int .i64 sz) (v3 := .int .i64 du) (v4 := .bool ch) n2).trans RS)) (below_five (g := g1) (v0 := .int .i64 t) (v1 := .int .i64 0) (v2 := .int .i64 r) (v3 := .int .i64 s) (v4 := .int .i64 4) (below_five (g := w.heap.size) (v0 := .int .i64 nd) (v1 := .int .i64 k) (v2 := .int .i64 sz) (v3 := .int .i64 du) (v4 := .bool ch) BW (Nat.le_refl _)) (by omega))))
    have XB := Lib.hid (And.intro (five_heap (v0 := .int .i64 nd) (v1 := .int .i64 k) (v2 := .int .i64 sz) (v3 := .int .i64 du) (v4 := .bool ch) ((five_other (g := g1) (h := w.heap.size) (v0 := .int .i64 t) (v1 := .int .i64 0) (v2 := .int .i64 r) (v3 := .int .i64 s) (v4 := .int .i64 4) n1).trans RD)) (And.intro ((five_other (g := w.heap.size) (h := g1) (v0 := .int .i64 nd) (v1 := .int .i64 k) (v2 := .int .i64 sz) (v3 := .int .i64 du) (v4 := .bool ch) n2).trans (five_heap (v0 := .int .i64 t) (v1 := .int .i64 0) (v2 := .int .i64 r) (v3 := .int .i64 s) (v4 := .int .i64 4) RS)) (below_five (g := w.heap.size) (v0 := .int .i64 nd) (v1 := .int .i64 k) (v2 := .int .i64 sz) (v3 := .int .i64 du) (v4 := .bool ch) (below_five (g := g1) (v0 := .int .i64 t) (v1 := .int .i64 0) (v2 := .int .i64 r) (v3 := .int .i64 s) (v4 := .int .i64 4) BW (by omega)) (Nat.le_refl _))))
    clear RD RS RB RC BW
    go_region_held3 (fun w' => w'.cell? ⟨b5, 0, none⟩ = some (.int .i64 nd) ∧ w'.cell? ⟨b5, 1, none⟩ = some (.int .i64 k) ∧ w'.cell? ⟨b5, 2, none⟩ = some (.int .i64 sz) ∧ w'.cell? ⟨b5, 3, none⟩ = some (.int .i64 du) ∧ w'.cell? ⟨b5, 4, none⟩ = some (.bool ch) ∧ w'.cell? ⟨b6, 0, none⟩ = some (.int .i64 t) ∧ w'.cell? ⟨b6, 1, none⟩ = some (.int .i64 0) ∧ w'.cell? ⟨b6, 2, none⟩ = some (.int .i64 r) ∧ w'.cell? ⟨b6, 3, none⟩ = some (.int .i64 s) ∧ w'.cell? ⟨b6, 4, none⟩ = some (.int .i64 4)) (go_keep) (fail)
    all_goals go_wp2
    all_goals clear b0 b1 b2 b3 b4 c0 c1 c2 c3 c4 d0 d1 d2 d3 d4 e0 e1 e2 e3 e4 k0 k1 k2 k3 k4 l0 l1 l2 l3 l4
    have X := XA.out
    clear XA XB
    revert X
    generalize World.setCell _ _ _ = WF
    rintro ⟨RF, SF, BF⟩
    obtain ⟨b0, b1, b2, b3, b4⟩ := desc_cells RF
    obtain ⟨c0, c1, c2, c3, c4⟩ := desc_cells SF
    exact bodyPost_ret (v := .tuple #[.agg #[.int .i64 nd, .int .i64 k, .int .i64 sz, .int .i64 du, .bool ch], .agg #[.int .i64 t, .int .i64 0, .int .i64 r, .int .i64 s, .int .i64 4]]) (by simp [results, Try.results60, go_sem, b0, b1, b2, b3, b4, c0, c1, c2, c3, c4]) rfl ⟨_, _, _, _, _, _, _, _, _, _, rfl, BF.drew⟩
end Go.Proofs.Ytecelofoffdjlaa

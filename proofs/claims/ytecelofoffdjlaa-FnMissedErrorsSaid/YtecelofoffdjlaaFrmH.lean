/- Contracts of the laws' helpers on frames and states. -/
import Derived.Test.YtecelofoffdjlaaFrmI
import Derived.Test.YtecelofoffdjlaaFrmS
import Derived.Deep.Cut
namespace Go.Proofs.Ytecelofoffdjlaa
open Go.RowKit
set_option linter.unusedSimpArgs false
set_option linter.unusedVariables false
theorem two_heap8 {w : World} {g : Nat} {u0 u1 u2 u3 u4 u5 u6 u7 v0 v1 : Value} {t : TypeId} (h : w.heap[g]? = some (.cells #[u0, u1, u2, u3, u4, u5, u6, u7] t (0, 0))) :
    ((w.setCell ⟨g, 0, none⟩ v0).setCell ⟨g, 1, none⟩ v1).heap[g]? = some (.cells #[v0, v1, u2, u3, u4, u5, u6, u7] t (0, 0)) := by
  simpa using heap_setCell_same _ g 1 _ _ v1 (heap_setCell_same _ g 0 _ _ v0 h)
theorem five_heap8 {w : World} {g : Nat} {u0 u1 u2 u3 u4 u5 u6 u7 v2 v3 v4 v5 v6 : Value} {t : TypeId} (h : w.heap[g]? = some (.cells #[u0, u1, u2, u3, u4, u5, u6, u7] t (0, 0))) :
    (((((w.setCell ⟨g, 2, none⟩ v2).setCell ⟨g, 3, none⟩ v3).setCell ⟨g, 4, none⟩ v4).setCell ⟨g, 5, none⟩ v5).setCell ⟨g, 6, none⟩ v6).heap[g]? = some (.cells #[u0, u1, v2, v3, v4, v5, v6, u7] t (0, 0)) := by
  simpa using heap_setCell_same _ g 6 _ _ v6 (heap_setCell_same _ g 5 _ _ v5 (heap_setCell_same _ g 4 _ _ v4 (heap_setCell_same _ g 3 _ _ v3 (heap_setCell_same _ g 2 _ _ v2 h))))
theorem eight_heap {w : World} {g : Nat} {u0 u1 u2 u3 u4 u5 u6 u7 v0 v1 v2 v3 v4 v5 v6 v7 : Value} {t : TypeId} (h : w.heap[g]? = some (.cells #[u0, u1, u2, u3, u4, u5, u6, u7] t (0, 0))) :
    ((((((((w.setCell ⟨g, 0, none⟩ v0).setCell ⟨g, 1, none⟩ v1).setCell ⟨g, 2, none⟩ v2).setCell ⟨g, 3, none⟩ v3).setCell ⟨g, 4, none⟩ v4).setCell ⟨g, 5, none⟩ v5).setCell ⟨g, 6, none⟩ v6).setCell ⟨g, 7, none⟩ v7).heap[g]? = some (.cells #[v0, v1, v2, v3, v4, v5, v6, v7] t (0, 0)) := by
  simpa using heap_setCell_same _ g 7 _ _ v7 (heap_setCell_same _ g 6 _ _ v6 (heap_setCell_same _ g 5 _ _ v5 (heap_setCell_same _ g 4 _ _ v4 (heap_setCell_same _ g 3 _ _ v3 (heap_setCell_same _ g 2 _ _ v2 (heap_setCell_same _ g 1 _ _ v1 (heap_setCell_same _ g 0 _ _ v0 h)))))))
theorem below_eight {B : Nat} {a w : World} (h : Below B a w) {g : Nat} (hg : B ≤ g) {v0 v1 v2 v3 v4 v5 v6 v7 : Value} :
    Below B a ((((((((w.setCell ⟨g, 0, none⟩ v0).setCell ⟨g, 1, none⟩ v1).setCell ⟨g, 2, none⟩ v2).setCell ⟨g, 3, none⟩ v3).setCell ⟨g, 4, none⟩ v4).setCell ⟨g, 5, none⟩ v5).setCell ⟨g, 6, none⟩ v6).setCell ⟨g, 7, none⟩ v7) :=
  (((((((h.setCell hg _).setCell hg _).setCell hg _).setCell hg _).setCell hg _).setCell hg _).setCell hg _).setCell hg _
theorem IOwn.setB {w : World} {base : Nat} {v : Value} {xs : List Int} (h : IOwn w base v xs) {g k : Nat} (hg : g < base) (u : Value) : IOwn (w.setCell ⟨g, k, none⟩ u) base v xs := ownsRow_setCell_below h hg u
theorem IOwn.eight {w : World} {base : Nat} {v : Value} {xs : List Int} (h : IOwn w base v xs) {g : Nat} (hg : g < base) (v0 v1 v2 v3 v4 v5 v6 v7 : Value) :
    IOwn ((((((((w.setCell ⟨g, 0, none⟩ v0).setCell ⟨g, 1, none⟩ v1).setCell ⟨g, 2, none⟩ v2).setCell ⟨g, 3, none⟩ v3).setCell ⟨g, 4, none⟩ v4).setCell ⟨g, 5, none⟩ v5).setCell ⟨g, 6, none⟩ v6).setCell ⟨g, 7, none⟩ v7) base v xs :=
  (((((((h.setB hg _).setB hg _).setB hg _).setB hg _).setB hg _).setB hg _).setB hg _).setB hg _
theorem five_other8 {w : World} {g h : Nat} {v2 v3 v4 v5 v6 : Value} (hn : h ≠ g) :
    (((((w.setCell ⟨g, 2, none⟩ v2).setCell ⟨g, 3, none⟩ v3).setCell ⟨g, 4, none⟩ v4).setCell ⟨g, 5, none⟩ v5).setCell ⟨g, 6, none⟩ v6).heap[h]? = w.heap[h]? := by
  rw [heap_setCell_other _ _ _ _ hn, heap_setCell_other _ _ _ _ hn, heap_setCell_other _ _ _ _ hn, heap_setCell_other _ _ _ _ hn, heap_setCell_other _ _ _ _ hn]
theorem below_five8 {B : Nat} {a w : World} (h : Below B a w) {g : Nat} (hg : B ≤ g) {v2 v3 v4 v5 v6 : Value} :
    Below B a (((((w.setCell ⟨g, 2, none⟩ v2).setCell ⟨g, 3, none⟩ v3).setCell ⟨g, 4, none⟩ v4).setCell ⟨g, 5, none⟩ v5).setCell ⟨g, 6, none⟩ v6) :=
  ((((h.setCell hg _).setCell hg _).setCell hg _).setCell hg _).setCell hg _
theorem alloc2 (w : World) (a b : Obj) : ((w.alloc a).alloc b).heap[w.heap.size]? = some a ∧ ((w.alloc a).alloc b).heap[w.heap.size + 1]? = some b := by
  refine ⟨(Below.heap_alloc _ _ w.heap.size (by simp)).trans (heap_alloc_new w a), ?_⟩
  have := heap_alloc_new (w.alloc a) b
  rwa [show (w.alloc a).heap.size = w.heap.size + 1 by simp] at this
theorem alloc3 (w : World) (a b c : Obj) : (((w.alloc a).alloc b).alloc c).heap[w.heap.size]? = some a ∧ (((w.alloc a).alloc b).alloc c).heap[w.heap.size + 1]? = some b ∧ (((w.alloc a).alloc b).alloc c).heap[w.heap.size + 2]? = some c := by
  obtain ⟨h1, h2⟩ := alloc2 w a b
  refine ⟨(Below.heap_alloc _ _ w.heap.size (by simp; omega)).trans h1, (Below.heap_alloc _ _ (w.heap.size + 1) (by simp)).trans h2, ?_⟩
  have := heap_alloc_new ((w.alloc a).alloc b) c
  rwa [show ((w.alloc a).alloc b).heap.size = w.heap.size + 2 by simp] at this
theorem below_alloc3 (w : World) (a b c : Obj) : Below w.heap.size w (((w.alloc a).alloc b).alloc c) := (((Below.refl _ _).alloc (Nat.le_refl _) _).alloc (by simp) _).alloc (by simp; omega) _
theorem h_szInt64S_yes (A : Option Addr) (n c : Nat) (w : World) (hn : n ≤ 1048576) :
    Calls Try.prog 73 #[.slice A n c, .int .i64 1048576] w fun e w' => e = .returned (.int .i64 (1048576 - n)) ∧ w = w' := by
  go_enter Try.func73, Try.ntmps73
  go_wp2
  go_ret
  exact ⟨rfl, rfl⟩
theorem h_szInt64S_no (A : Option Addr) (n c : Nat) (w : World) (hn : 1048576 < n) (hm : n ≤ maxLen) :
    Calls Try.prog 73 #[.slice A n c, .int .i64 1048576] w fun e w' => e = .returned (.int .i64 (-1)) ∧ w = w' := by
  have hm' : n ≤ 9223372036854775807 := Nat.le_trans hm (by unfold maxLen; omega)
  clear hm
  go_enter Try.func73, Try.ntmps73
  go_wp2
  go_ret
  exact ⟨rfl, rfl⟩
theorem h_szFrame_yes (k q t m r s v : Int) (A : Option Addr) (n c : Nat) (w : World) (hn : n ≤ 1048576) :
    Calls Try.prog 26 #[.agg #[.int .i64 k, .int .i64 q, .int .i64 t, .int .i64 m, .int .i64 r, .int .i64 s, .int .i64 v, .slice A n c], .int .i64 1048576] w fun e w' => e = .returned (.int .i64 (1048576 - n)) ∧ Below w.heap.size w w' := by
  go_enter Try.func26, Try.ntmps26
  go_wp2_with (go_at_call 73; refine (h_szInt64S_yes _ _ _ _ hn).mono ?_; rintro e w' ⟨rfl, rfl⟩)
  go_ret
  exact ⟨rfl, (Below.refl _ _).alloc (Nat.le_refl _) _⟩
theorem h_szFrame_no (k q t m r s v : Int) (A : Option Addr) (n c : Nat) (w : World) (hn : 1048576 < n) (hm : n ≤ maxLen) :
    Calls Try.prog 26 #[.agg #[.int .i64 k, .int .i64 q, .int .i64 t, .int .i64 m, .int .i64 r, .int .i64 s, .int .i64 v, .slice A n c], .int .i64 1048576] w fun e w' => e = .returned (.int .i64 (-1)) ∧ Below w.heap.size w w' := by
  have Hm := Lib.hid hm; clear hm
  go_enter Try.func26, Try.ntmps26
  go_wp2_with (go_at_call 73; refine (h_szInt64S_no _ _ _ _ hn Hm.out).mono ?_; rintro e w' ⟨rfl, rfl⟩)
  go_ret
  exact ⟨rfl, (Below.refl _ _).alloc (Nat.le_refl _) _⟩
theorem h_toState (t m r s v : Int) (w : World) :
    Calls Try.prog 32 #[.agg #[.int .i64 t, .int .i64 m, .int .i64 r, .int .i64 s, .int .i64 v]] w fun e w' => e = .returned (.agg #[.int .i64 t, .int .i64 m, .int .i64 r, .int .i64 s, .int .i64 v]) ∧ Below w.heap.size w w' := by
  go_enter Try.func32, Try.ntmps32
  go_wp2
  exact bodyPost_ret (v := .agg #[.int .i64 t, .int .i64 m, .int .i64 r, .int .i64 s, .int .i64 v]) (by simp [results, Try.results32, go_sem]) rfl ⟨rfl, (((Below.refl _ _).alloc (Nat.le_refl _) _).alloc (by simp) _).alloc (by simp; omega) _⟩
theorem h_eqState (t m r s v : Int) (w : World) :
    Calls Try.prog 75 #[.agg #[.int .i64 t, .int .i64 m, .int .i64 r, .int .i64 s, .int .i64 v], .agg #[.int .i64 t, .int .i64 m, .int .i64 r, .int .i64 s, .int .i64 v]] w fun e w' => e = .returned (.bool true) ∧ Below w.heap.size w w' := by
  go_enter Try.func75, Try.ntmps75
  go_wp2
  go_ret
  exact ⟨rfl, ((Below.refl _ _).alloc (Nat.le_refl _) _).alloc (by simp) _⟩
theorem h_eqFrame (k q t m r s v : Int) (A A' : Option Addr) (n c n' c' : Nat) (xs : List Int) (B B' : Nat) (w : World) (h : IntsAt w B A n c xs) (h' : IntsAt w B' A' n' c' xs) (hB : B ≤ w.heap.size) (hB' : B' ≤ w.heap.size) :
    Calls Try.prog 30 #[.agg #[.int .i64 k, .int .i64 q, .int .i64 t, .int .i64 m, .int .i64 r, .int .i64 s, .int .i64 v, .slice A n c], .agg #[.int .i64 k, .int .i64 q, .int .i64 t, .int .i64 m, .int .i64 r, .int .i64 s, .int .i64 v, .slice A' n' c']] w fun e w' => e = .returned (.bool true) ∧ Below w.heap.size w w' := by
  have he := eqL_refl xs
  go_enter Try.func30, Try.ntmps30
  go_wp2_with fail
  refine (h_eqState t m r s v _).mono ?_
  rintro e w1 ⟨rfl, hb⟩
  obtain ⟨x1, x2⟩ := alloc2 w (.cells #[.int .i64 k, .int .i64 q, .int .i64 t, .int .i64 m, .int .i64 r, .int .i64 s, .int .i64 v, .slice A n c] 47) (.cells #[.int .i64 k, .int .i64 q, .int .i64 t, .int .i64 m, .int .i64 r, .int .i64 s, .int .i64 v, .slice A' n' c'] 47)
  have hR := (hb.block w.heap.size (by simp; omega)).trans x1
  have hS := (hb.block (w.heap.size + 1) (by simp)).trans x2
  have B0 : Below w.heap.size w w1 := (((Below.refl w.heap.size w).alloc (Nat.le_refl _) _).alloc (by simp) _).trans (hb.mono (by simp; omega))
  have h1 := h.below' hB B0
  have h1' := h'.below' hB' B0
  obtain ⟨c0, c1, c2, c3, c4, c5, c6, c7⟩ := fr_cells hR
  obtain ⟨d0, d1, d2, d3, d4, d5, d6, d7⟩ := fr_cells hS
  clear hb hR hS
  go_wp2_with fail
  refine (h_eqInt64S _ _ _ _ _ _ _ _ _ _ _ h1 h1').mono ?_
  rintro e w2 ⟨rfl, m2, rfl⟩
  go_wp2
  go_ret
  exact ⟨rfl, below_drewN B0 _⟩
set_option maxHeartbeats 2000000 in
theorem h_toFrame (k q t m r s v : Int) (A : Option Addr) (n c : Nat) (xs : List Int) (B : Nat) (w : World) (h : IntsAt w B A n c xs) (hB : B ≤ w.heap.size) :
    Calls Try.prog 28 #[.agg #[.int .i64 k, .int .i64 q, .int .i64 t, .int .i64 m, .int .i64 r, .int .i64 s, .int .i64 v, .slice A n c]] w fun e w' => ∃ vs, e = .returned (.agg #[.int .i64 k, .int .i64 q, .int .i64 t, .int .i64 m, .int .i64 r, .int .i64 s, .int .i64 v, vs]) ∧ IOwn w' w.heap.size vs xs ∧ Below w.heap.size w w' := by
  go_enter Try.func28, Try.ntmps28
  go_wp2_with fail
  refine (h_toState t m r s v _).mono ?_
  rintro e w1 ⟨rfl, hb⟩
  obtain ⟨x0, x1, x2⟩ := alloc3 w (.cells #[.int .i64 k, .int .i64 q, .int .i64 t, .int .i64 m, .int .i64 r, .int .i64 s, .int .i64 v, .slice A n c] 42) (.cells #[.int .i64 0, .int .i64 0, .int .i64 0, .int .i64 0, .int .i64 0, .int .i64 0, .int .i64 0, .slice none 0 0] 47) (.cells #[.int .i64 k, .int .i64 q, .int .i64 0, .int .i64 0, .int .i64 0, .int .i64 0, .int .i64 0, .slice none 0 0] 47)
  have r0 := (hb.block w.heap.size (by simp; omega)).trans x0
  have r1 := (hb.block (w.heap.size + 1) (by simp)).trans x1
  have r2 := (hb.block (w.heap.size + 1 + 1) (by simp)).trans x2
  have B1 := (below_alloc3 w _ _ _).trans (hb.mono (by simp; omega))
  clear hb x0 x1 x2
  have n1 : w.heap.size + 1 ≠ w.heap.size + 1 + 1 := by omega
  have n0 : w.heap.size ≠ w.heap.size + 1 + 1 := by omega
  have n01 : w.heap.size ≠ w.heap.size + 1 := by omega
  have y1 : w.heap.size ≤ w.heap.size + 1 := by omega
  have y2 : w.heap.size ≤ w.heap.size + 1 + 1 := by omega
  generalize w.heap.size + 1 + 1 = g2 at r2 n1 n0 y2 ⊢
  generalize w.heap.size + 1 = g1 at r1 n1 n01 y1 ⊢
  generalize hg0 : w.heap.size = g0 at r0 n0 n01 y1 y2 B1 hB ⊢
  have z1 := Below.lt_of' r2
  obtain ⟨c0, c1, c2, c3, c4, c5, c6, c7⟩ := fr_cells r0
  obtain ⟨d0, d1, d2, d3, d4, d5, d6, d7⟩ := fr_cells r2
  have k2 := frozen_of_row _ _ 2 _ _ r2
  have k3 := frozen_of_row _ _ 3 _ _ r2
  have k4 := frozen_of_row _ _ 4 _ _ r2
  have k5 := frozen_of_row _ _ 5 _ _ r2
  have k6 := frozen_of_row _ _ 6 _ _ r2
  have R0 := Lib.hid r0; have R1 := Lib.hid r1; have R2 := Lib.hid r2; have BB := Lib.hid B1
  clear r0 r1 r2 B1 c0 c1 c2 c3 c4 c5 c6 d0 d1 d7
  go_wp2_with fail
  have R2' := five_heap8 (v2 := .int .i64 t) (v3 := .int .i64 m) (v4 := .int .i64 r) (v5 := .int .i64 s) (v6 := .int .i64 v) R2.out
  have R1' := (five_other8 (w := w1) (g := g2) (h := g1) (v2 := .int .i64 t) (v3 := .int .i64 m) (v4 := .int .i64 r) (v5 := .int .i64 s) (v6 := .int .i64 v) n1).trans R1.out
  have B2 := below_five8 (g := g2) (v2 := .int .i64 t) (v3 := .int .i64 m) (v4 := .int .i64 r) (v5 := .int .i64 s) (v6 := .int .i64 v) BB.out y2
  clear R0 R1 R2 BB d2 d3 d4 d5 d6 k2 k3 k4 k5 k6 c7 z1
  generalize World.setCell _ _ _ = w2 at R1' R2' B2 ⊢
  have z2 := Below.lt_of' R2'
  have z1 := Below.lt_of' R1'
  refine (h_toInt64S _ _ _ _ _ _ (h.below' hB B2) (by omega)).mono ?_
  rintro e w3 ⟨vs, rfl, ho, hb3⟩
  obtain ⟨As, cs, rfl, -, -, -⟩ := ho.form
  have z3 := hb3.size
  have r1 := (hb3.block g1 z1).trans R1'
  have r2 := (hb3.block g2 z2).trans R2'
  have B3 := B2.trans (hb3.mono (by omega))
  clear hb3 R1' R2' B2
  obtain ⟨d0, d1, d2, d3, d4, d5, d6, d7⟩ := fr_cells r2
  have k7 := frozen_of_row _ _ 7 _ _ r2
  have R1 := Lib.hid ((show (w3.setCell ⟨g2, 7, none⟩ (.slice As xs.length cs)).heap[g1]? = w3.heap[g1]? from heap_setCell_other _ _ _ _ n1).trans r1)
  have R2 := Lib.hid (show (w3.setCell ⟨g2, 7, none⟩ (.slice As xs.length cs)).heap[g2]? = some (.cells #[.int .i64 k, .int .i64 q, .int .i64 t, .int .i64 m, .int .i64 r, .int .i64 s, .int .i64 v, (.slice As xs.length cs)] 47 (0, 0)) by simpa using heap_setCell_same _ g2 7 _ _ (.slice As xs.length cs) r2)
  have OO := Lib.hid (ho.setB (g := g2) (k := 7) z2 (.slice As xs.length cs))
  have B4 := Lib.hid (B3.setCell (p := ⟨g2, 7, none⟩) y2 (.slice As xs.length cs))
  clear d0 d1 d2 d3 d4 d5 d6 r1 r2 B3 ho
  go_upto_region 6 with fail
  have r1 := R1.out; have r2 := R2.out; have ho := OO.out; have B3 := B4.out
  clear R1 R2 OO B4 k7 d7
  generalize World.setCell _ _ _ = w4 at r1 r2 ho B3 ⊢
  obtain ⟨d0, d1, d2, d3, d4, d5, d6, d7⟩ := fr_cells r2
  obtain ⟨e0, e1, e2, e3, e4, e5, e6, e7⟩ := fr_cells r1
  have l0 := frozen_of_row _ _ 0 _ _ r1
  have l1 := frozen_of_row _ _ 1 _ _ r1
  have l2 := frozen_of_row _ _ 2 _ _ r1
  have l3 := frozen_of_row _ _ 3 _ _ r1
  have l4 := frozen_of_row _ _ 4 _ _ r1
  have l5 := frozen_of_row _ _ 5 _ _ r1
  have l6 := frozen_of_row _ _ 6 _ _ r1
  have l7 := frozen_of_row _ _ 7 _ _ r1
  have RR := Lib.hid (eight_heap (v0 := .int .i64 k) (v1 := .int .i64 q) (v2 := .int .i64 t) (v3 := .int .i64 m) (v4 := .int .i64 r) (v5 := .int .i64 s) (v6 := .int .i64 v) (v7 := (.slice As xs.length cs)) r1)
  have OO := Lib.hid (ho.eight (g := g1) z1 (.int .i64 k) (.int .i64 q) (.int .i64 t) (.int .i64 m) (.int .i64 r) (.int .i64 s) (.int .i64 v) (.slice As xs.length cs))
  have B4 := Lib.hid (below_eight (v0 := .int .i64 k) (v1 := .int .i64 q) (v2 := .int .i64 t) (v3 := .int .i64 m) (v4 := .int .i64 r) (v5 := .int .i64 s) (v6 := .int .i64 v) (v7 := (.slice As xs.length cs)) B3 y1)
  clear r1 r2 B3 ho h n0 n01
  go_wp2
  have R := RR.out
  have O := OO.out
  have B5 := B4.out
  clear RR OO B4 d0 d1 d2 d3 d4 d5 d6 d7 e0 e1 e2 e3 e4 e5 e6 e7 l0 l1 l2 l3 l4 l5 l6 l7
  revert R O B5
  generalize World.setCell _ _ _ = W
  intro R O B5
  obtain ⟨e0, e1, e2, e3, e4, e5, e6, e7⟩ := fr_cells R
  exact bodyPost_ret (v := .agg #[.int .i64 k, .int .i64 q, .int .i64 t, .int .i64 m, .int .i64 r, .int .i64 s, .int .i64 v, (.slice As xs.length cs)]) (by simp [results, Try.results28, go_sem, e0, e1, e2, e3, e4, e5, e6, e7]) rfl ⟨(.slice As xs.length cs), rfl, O.less (by omega), hg0 ▸ B5⟩
end Go.Proofs.Ytecelofoffdjlaa

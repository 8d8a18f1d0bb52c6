/- likeFrames; the draw of FitsDescriptor's arguments. -/
import Derived.Test.YtecelofoffdjlaaDrawE
namespace Go.Proofs.Ytecelofoffdjlaa
open Go.RowKit
set_option linter.unusedSimpArgs false
set_option linter.unusedVariables false
theorem h_likeFrames (k q t m r s v : Int) (A A' : Option Addr) (n c n' c' : Nat) (xs : List Int) (B B' : Nat) (w : World) (h : IntsAt w B A n c xs) (h' : IntsAt w B' A' n' c' xs) (hB : B ≤ w.heap.size) (hB' : B' ≤ w.heap.size) :
    Calls Try.prog 61 #[.agg #[.int .i64 k, .int .i64 q, .int .i64 t, .int .i64 m, .int .i64 r, .int .i64 s, .int .i64 v, .slice A n c], .agg #[.int .i64 k, .int .i64 q, .int .i64 t, .int .i64 m, .int .i64 r, .int .i64 s, .int .i64 v, .slice A' n' c']] w fun e w' => e = .returned (.bool true) ∧ Below w.heap.size w w' := by
  have he := eqL_refl xs
  have i1 := (h.alloc hB (.cells #[.int .i64 k, .int .i64 q, .int .i64 t, .int .i64 m, .int .i64 r, .int .i64 s, .int .i64 v, .slice A n c] 47)).alloc (by simp; omega) (.cells #[.int .i64 k, .int .i64 q, .int .i64 t, .int .i64 m, .int .i64 r, .int .i64 s, .int .i64 v, .slice A' n' c'] 47)
  have i2 := (h'.alloc hB' (.cells #[.int .i64 k, .int .i64 q, .int .i64 t, .int .i64 m, .int .i64 r, .int .i64 s, .int .i64 v, .slice A n c] 47)).alloc (by simp; omega) (.cells #[.int .i64 k, .int .i64 q, .int .i64 t, .int .i64 m, .int .i64 r, .int .i64 s, .int .i64 v, .slice A' n' c'] 47)
  go_enter Try.func61, Try.ntmps61
  go_wp2_with fail
  refine (h_likeInts _ _ _ _ _ _ _ _ _ _ _ i1 i2).mono ?_
  rintro e w2 ⟨rfl, m2, rfl⟩
  go_wp2
  go_ret
  exact ⟨rfl, below_drewN (((Below.refl _ _).alloc (Nat.le_refl _) _).alloc (by simp) _) _⟩
theorem s_l06BodySize_any (k d : Int) (w : World) : Calls Try.prog 101 #[.int .i64 k, .int .i64 d] w fun e w' => ∃ z : Int, e = .returned (.int .i64 z) ∧ w = w' := by
  cases h0 : (k == 0)
  · have h0' := bne_of h0
    cases h2 : (k == 2)
    all_goals
      go_enter Try.func101, Try.ntmps101
      go_wp2_with (first | (go_at_call 76; refine (s_l06State _ _).mono ?_; rintro e w' ⟨rfl, rfl⟩) | (go_at_call 104; refine (s_l06Data _ _).mono ?_; rintro e w' ⟨rfl, rfl⟩))
      go_ret
      exact ⟨_, rfl, rfl⟩
  · have h0' : (k != 0) = false := by simp [bne, h0]
    go_enter Try.func101, Try.ntmps101
    go_wp2_with (first | (go_at_call 76; refine (s_l06State _ _).mono ?_; rintro e w' ⟨rfl, rfl⟩) | (go_at_call 104; refine (s_l06Data _ _).mono ?_; rintro e w' ⟨rfl, rfl⟩))
    go_ret
    exact ⟨_, rfl, rfl⟩
theorem s_l08Cells_any (k d : Int) (w : World) : Calls Try.prog 65 #[.int .i64 k, .int .i64 d] w fun e w' => ∃ z : Int, e = .returned (.int .i64 z) ∧ w = w' := by
  go_enter Try.func65, Try.ntmps65
  go_wp2_with fail
  refine (s_l06BodySize_any k d _).mono ?_
  rintro e w' ⟨z, rfl, rfl⟩
  go_wp2
  go_ret
  exact ⟨_, rfl, rfl⟩
theorem three_other {w : World} {b h : Nat} {x y z : Value} (hn : h ≠ b) : (((w.setCell ⟨b, 1, none⟩ x).setCell ⟨b, 2, none⟩ y).setCell ⟨b, 3, none⟩ z).heap[h]? = w.heap[h]? := by
  rw [heap_setCell_other _ _ _ _ hn, heap_setCell_other _ _ _ _ hn, heap_setCell_other _ _ _ _ hn]
def DrewDF (w : World) (e : Ending) (w' : World) : Prop := ∃ (nd k sz du : Int) (ch : Bool) (fk q t m r s v : Int) (vs : Value) (xs : List Int), e = .returned (.tuple #[.agg #[.int .i64 nd, .int .i64 k, .int .i64 sz, .int .i64 du, .bool ch], .agg #[.int .i64 fk, .int .i64 q, .int .i64 t, .int .i64 m, .int .i64 r, .int .i64 s, .int .i64 v, vs]]) ∧ xs.length ≤ 10000 ∧ IOwn w' w.heap.size vs xs ∧ Below w.heap.size w w'
set_option maxHeartbeats 4000000 in
theorem s_DrawFitsDescriptor (A : Option Addr) (n c : Nat) (bs : List Int) (B : Nat) (w : World) (h : BytesAt w B A n c bs) (hB : B ≤ w.heap.size) :
    Calls Try.prog 59 #[.slice A n c] w (DrewDF w) := by
  go_enter Try.func59, Try.ntmps59
  go_wp2_with fail
  obtain ⟨x1, x2⟩ := alloc2 w (.cells #[.int .i64 0, .int .i64 0, .int .i64 0, .int .i64 0, .bool false] 26) (.cells #[.int .i64 0, .int .i64 0, .int .i64 0, .int .i64 0, .int .i64 0, .int .i64 0, .int .i64 0, .slice none 0 0] 47)
  have bA := ((Below.refl w.heap.size w).alloc (Nat.le_refl _) (.cells #[.int .i64 0, .int .i64 0, .int .i64 0, .int .i64 0, .bool false] 26)).alloc (by simp) (.cells #[.int .i64 0, .int .i64 0, .int .i64 0, .int .i64 0, .int .i64 0, .int .i64 0, .int .i64 0, .slice none 0 0] 47)
  generalize hW0 : World.alloc _ _ = W0 at x1 x2 bA ⊢
  have y0 : w.heap.size + 1 < W0.heap.size := Below.ltK x2
  have y1 : w.heap.size < w.heap.size + 1 := by omega
  clear hW0
  generalize w.heap.size + 1 = g1 at x2 y0 y1 ⊢
  refine (s_l01From _ _ _ _ B _ (h.below' hB bA) (by omega)).mono ?_
  rintro e w1 ⟨g, rfl, S1, hg, hb⟩
  have RD1 := (hb.block w.heap.size (by omega)).trans x1
  have RS1 := (hb.block g1 y0).trans x2
  have B1 := bA.trans (hb.mono bA.size)
  clear hb bA h x1 x2
  go_wp2_with fail
  refine (s_l08DrawAny g B _ S1).mono ?_
  rintro e w2 ⟨nd, k, sz, du, ch, rfl, S2, gg2⟩
  have RD2 := (Below.heap_alloc w2 (.cells #[.int .i64 nd, .int .i64 k, .int .i64 sz, .int .i64 du, .bool ch] 26) _ (Below.ltK (zkeep RD1 gg2 (by omega)))).trans (zkeep RD1 gg2 (by omega))
  have RS2 := (Below.heap_alloc w2 (.cells #[.int .i64 nd, .int .i64 k, .int .i64 sz, .int .i64 du, .bool ch] 26) _ (Below.ltK (zkeep RS1 gg2 (by omega)))).trans (zkeep RS1 gg2 (by omega))
  have RB2 := heap_alloc_new w2 (.cells #[.int .i64 nd, .int .i64 k, .int .i64 sz, .int .i64 du, .bool ch] 26)
  have B2 := (B1.trans (grown_below gg2 B1.size (fun q hq => by injection hq with hq; omega))).alloc (by have := gg2.size; have := B1.size; omega) (.cells #[.int .i64 nd, .int .i64 k, .int .i64 sz, .int .i64 du, .bool ch] 26)
  have S3 := S2.alloc (.cells #[.int .i64 nd, .int .i64 k, .int .i64 sz, .int .i64 du, .bool ch] 26)
  have l2 := S2.lt
  have z1 := Below.ltK (zkeep RS1 gg2 (by omega))
  clear RD1 RS1 B1 S1 S2 gg2
  go_wp2_with fail
  generalize w2.alloc _ = W2 at RD2 RS2 RB2 B2 S3 ⊢
  generalize w2.heap.size = b5 at RB2 l2 z1 ⊢
  have zb5 := Below.ltK RB2
  refine (s_l06DrawAny g B _ S3).mono ?_
  rintro e w3 ⟨fk, q, t, m, r, s, v, vs, xs, rfl, hx, o3, S4, gg3⟩
  obtain ⟨A6, c6, rfl, -, -, -⟩ := o3.form
  have RD3 := zkeep RD2 gg3 (by omega)
  have RS3 := zkeep RS2 gg3 (by omega)
  have RB3 := zkeep RB2 gg3 (by omega)
  have B3 := B2.trans (grown_below gg3 B2.size (fun q hq => by injection hq with hq; omega))
  have l3 := S4.lt
  have z3 := Below.ltK RB3
  have RD4 := (Below.heap_alloc w3 (.cells #[.int .i64 fk, .int .i64 q, .int .i64 t, .int .i64 m, .int .i64 r, .int .i64 s, .int .i64 v, .slice A6 xs.length c6] 47) _ (by omega)).trans RD3
  have RS4 := (Below.heap_alloc w3 (.cells #[.int .i64 fk, .int .i64 q, .int .i64 t, .int .i64 m, .int .i64 r, .int .i64 s, .int .i64 v, .slice A6 xs.length c6] 47) _ (by omega)).trans RS3
  have RB4 := (Below.heap_alloc w3 (.cells #[.int .i64 fk, .int .i64 q, .int .i64 t, .int .i64 m, .int .i64 r, .int .i64 s, .int .i64 v, .slice A6 xs.length c6] 47) _ z3).trans RB3
  have RC4 := heap_alloc_new w3 (.cells #[.int .i64 fk, .int .i64 q, .int .i64 t, .int .i64 m, .int .i64 r, .int .i64 s, .int .i64 v, .slice A6 xs.length c6] 47)
  have B4 := B3.alloc (by omega) (.cells #[.int .i64 fk, .int .i64 q, .int .i64 t, .int .i64 m, .int .i64 r, .int .i64 s, .int .i64 v, .slice A6 xs.length c6] 47)
  have S5 := S4.alloc (.cells #[.int .i64 fk, .int .i64 q, .int .i64 t, .int .i64 m, .int .i64 r, .int .i64 s, .int .i64 v, .slice A6 xs.length c6] 47)
  have o4 := (o3.less (base' := b5 + 1) (by omega)).alloc (.cells #[.int .i64 fk, .int .i64 q, .int .i64 t, .int .i64 m, .int .i64 r, .int .i64 s, .int .i64 v, .slice A6 xs.length c6] 47)
  clear RD2 RS2 RB2 B2 S3 S4 gg3 RD3 RS3 RB3 B3 o3
  go_wp2_with fail
  generalize w3.alloc _ = W3 at RD4 RS4 RB4 RC4 B4 S5 o4 ⊢
  generalize w3.heap.size = b6 at RC4 l3 z3 ⊢
  refine (s_l01Next g B 3 _ S5).mono ?_
  rintro e w4 ⟨x, rfl, x0, _, S6, gg4⟩
  have RD := zkeep RD4 gg4 (by omega)
  have RS := zkeep RS4 gg4 (by omega)
  have RB := zkeep RB4 gg4 (by omega)
  have RC := zkeep RC4 gg4 (by omega)
  have OX := o4.kept gg4 (.inr (own_ne' o4 (by omega)))
  have BW := B4.trans (grown_below gg4 B4.size (fun q hq => by injection hq with hq; omega))
  clear RD4 RS4 RB4 RC4 B4 S5 S6 gg4 o4
  by_cases hq : 0 < x
  · obtain ⟨b0, b1, b2, b3, b4⟩ := desc_cells RB
    obtain ⟨c0, c1, c2, c3, c4, c5, c6_, c7⟩ := fr_cells RC
    have f1 := frozen_of_row _ _ 1 _ _ RB
    have f2 := frozen_of_row _ _ 2 _ _ RB
    have f3 := frozen_of_row _ _ 3 _ _ RB
    have n5 : b5 ≠ b6 := (by omega)
    have n6 : b6 ≠ b5 := (by omega)
    have HQ : Hid (∀ y : Int, ((((w4.setCell ⟨b5, 1, none⟩ (.int .i64 fk)).setCell ⟨b5, 2, none⟩ (.int .i64 xs.length)).setCell ⟨b5, 3, none⟩ (.int .i64 y)).heap[w.heap.size]? = some (.cells #[.int .i64 0, .int .i64 0, .int .i64 0, .int .i64 0, .bool false] 26)) ∧ ((((w4.setCell ⟨b5, 1, none⟩ (.int .i64 fk)).setCell ⟨b5, 2, none⟩ (.int .i64 xs.length)).setCell ⟨b5, 3, none⟩ (.int .i64 y)).heap[g1]? = some (.cells #[.int .i64 0, .int .i64 0, .int .i64 0, .int .i64 0, .int .i64 0, .int .i64 0, .int .i64 0, .slice none 0 0] 47)) ∧ ((((w4.setCell ⟨b5, 1, none⟩ (.int .i64 fk)).setCell ⟨b5, 2, none⟩ (.int .i64 xs.length)).setCell ⟨b5, 3, none⟩ (.int .i64 y)).heap[b5]? = some (.cells #[.int .i64 nd, .int .i64 fk, .int .i64 xs.length, .int .i64 y, .bool ch] 26 (0, 0))) ∧ ((((w4.setCell ⟨b5, 1, none⟩ (.int .i64 fk)).setCell ⟨b5, 2, none⟩ (.int .i64 xs.length)).setCell ⟨b5, 3, none⟩ (.int .i64 y)).heap[b6]? = some (.cells #[.int .i64 fk, .int .i64 q, .int .i64 t, .int .i64 m, .int .i64 r, .int .i64 s, .int .i64 v, .slice A6 xs.length c6] 47)) ∧ Below w.heap.size w (((w4.setCell ⟨b5, 1, none⟩ (.int .i64 fk)).setCell ⟨b5, 2, none⟩ (.int .i64 xs.length)).setCell ⟨b5, 3, none⟩ (.int .i64 y)) ∧ IOwn (((w4.setCell ⟨b5, 1, none⟩ (.int .i64 fk)).setCell ⟨b5, 2, none⟩ (.int .i64 xs.length)).setCell ⟨b5, 3, none⟩ (.int .i64 y)) (b5 + 1) (.slice A6 xs.length c6) xs) := Lib.hid (fun y =>
      ⟨(three_other (by omega)).trans RD, (three_other (by omega)).trans RS, set3 (set2 (set1 RB)), (three_other (by omega)).trans RC, ((BW.setCell (p := ⟨b5, 1, none⟩) (by show w.heap.size ≤ b5; omega) _).setCell (p := ⟨b5, 2, none⟩) (by show w.heap.size ≤ b5; omega) _).setCell (p := ⟨b5, 3, none⟩) (by show w.heap.size ≤ b5; omega) _, ((OX.setB (g := b5) (k := 1) (by omega) _).setB (g := b5) (k := 2) (by omega) _).setB (g := b5) (k := 3) (by omega) _⟩)
    clear RD RS RB RC BW OX
    go_wp2_with fail
    refine (s_l08Cells_any _ _ _).mono ?_
    rintro e w' ⟨z, rfl, rfl⟩
    go_upto_region 8 with fail
    generalize hX : World.setCell _ _ _ = WX
    obtain ⟨y, hy⟩ : ∃ y : Int, WX = ((w4.setCell ⟨b5, 1, none⟩ (.int .i64 fk)).setCell ⟨b5, 2, none⟩ (.int .i64 xs.length)).setCell ⟨b5, 3, none⟩ (.int .i64 y) := ⟨_, hX.symm⟩
    obtain ⟨RD, RS, RB, RC, BW, OX⟩ := HQ.out y
    rw [← hy] at RD RS RB RC BW OX
    clear hy hX HQ b0 b1 b2 b3 b4 c0 c1 c2 c3 c4 c5 c6_ c7 f1 f2 f3 n5 n6
    obtain ⟨b0, b1, b2, b3, b4⟩ := desc_cells RB
    obtain ⟨c0, c1, c2, c3, c4, c5, c6_, c7⟩ := fr_cells RC
    obtain ⟨d0, d1, d2, d3, d4⟩ := desc_cells RD
    obtain ⟨e0, e1, e2, e3, e4, e5, e6, e7⟩ := fr_cells RS
    have k0 := frozen_of_row _ _ 0 _ _ RD
    have k1 := frozen_of_row _ _ 1 _ _ RD
    have k2 := frozen_of_row _ _ 2 _ _ RD
    have k3 := frozen_of_row _ _ 3 _ _ RD
    have k4 := frozen_of_row _ _ 4 _ _ RD
    have l0 := frozen_of_row _ _ 0 _ _ RS
    have l1 := frozen_of_row _ _ 1 _ _ RS
    have l2 := frozen_of_row _ _ 2 _ _ RS
    have l3 := frozen_of_row _ _ 3 _ _ RS
    have l4 := frozen_of_row _ _ 4 _ _ RS
    have l5 := frozen_of_row _ _ 5 _ _ RS
    have l6 := frozen_of_row _ _ 6 _ _ RS
    have l7 := frozen_of_row _ _ 7 _ _ RS
    have n1 : w.heap.size ≠ g1 := (by omega)
    have n2 : g1 ≠ w.heap.size := (by omega)
    have n3 : w.heap.size ≠ b5 := (by omega)
    have n4 : b5 ≠ w.heap.size := (by omega)
    have n5 : w.heap.size ≠ b6 := (by omega)
    have n6 : b6 ≠ w.heap.size := (by omega)
    have n7 : g1 ≠ b5 := (by omega)
    have n8 : b5 ≠ g1 := (by omega)
    have n9 : g1 ≠ b6 := (by omega)
    have n10 : b6 ≠ g1 := (by omega)
    have OF := (((((OX.setB (g := w.heap.size) (k := 0) (by omega) (.int .i64 nd)).setB (g := w.heap.size) (k := 1) (by omega) (.int .i64 fk)).setB (g := w.heap.size) (k := 2) (by omega) (.int .i64 xs.length)).setB (g := w.heap.size) (k := 3) (by omega) (.int .i64 y)).setB (g := w.heap.size) (k := 4) (by omega) (.bool ch)).eight (g := g1) (by omega) (.int .i64 fk) (.int .i64 q) (.int .i64 t) (.int .i64 m) (.int .i64 r) (.int .i64 s) (.int .i64 v) (.slice A6 xs.length c6)
    have XA := Lib.hid (And.intro ((eight_other (g := g1) (h := w.heap.size) (v0 := .int .i64 fk) (v1 := .int .i64 q) (v2 := .int .i64 t) (v3 := .int .i64 m) (v4 := .int .i64 r) (v5 := .int .i64 s) (v6 := .int .i64 v) (v7 := .slice A6 xs.length c6) n1).trans (five_heap (v0 := .int .i64 nd) (v1 := .int .i64 fk) (v2 := .int .i64 xs.length) (v3 := .int .i64 y) (v4 := .bool ch) RD)) (And.intro (eight_heap (v0 := .int .i64 fk) (v1 := .int .i64 q) (v2 := .int .i64 t) (v3 := .int .i64 m) (v4 := .int .i64 r) (v5 := .int .i64 s) (v6 := .int .i64 v) (v7 := .slice A6 xs.length c6) ((five_other (g := w.heap.size) (h := g1) (v0 := .int .i64 nd) (v1 := .int .i64 fk) (v2 := .int .i64 xs.length) (v3 := .int .i64 y) (v4 := .bool ch) n2).trans RS)) (And.intro (below_eight (g := g1) (v0 := .int .i64 fk) (v1 := .int .i64 q) (v2 := .int .i64 t) (v3 := .int .i64 m) (v4 := .int .i64 r) (v5 := .int .i64 s) (v6 := .int .i64 v) (v7 := .slice A6 xs.length c6) (below_five (g := w.heap.size) (v0 := .int .i64 nd) (v1 := .int .i64 fk) (v2 := .int .i64 xs.length) (v3 := .int .i64 y) (v4 := .bool ch) BW (Nat.le_refl _)) (by omega)) OF)))
    clear RD RS RB RC BW OX OF
    go_region_held3 (fun w' => w'.cell? ⟨b5, 0, none⟩ = some (.int .i64 nd) ∧ w'.cell? ⟨b5, 1, none⟩ = some (.int .i64 fk) ∧ w'.cell? ⟨b5, 2, none⟩ = some (.int .i64 xs.length) ∧ w'.cell? ⟨b5, 3, none⟩ = some (.int .i64 y) ∧ w'.cell? ⟨b5, 4, none⟩ = some (.bool ch) ∧ w'.cell? ⟨b6, 0, none⟩ = some (.int .i64 fk) ∧ w'.cell? ⟨b6, 1, none⟩ = some (.int .i64 q) ∧ w'.cell? ⟨b6, 2, none⟩ = some (.int .i64 t) ∧ w'.cell? ⟨b6, 3, none⟩ = some (.int .i64 m) ∧ w'.cell? ⟨b6, 4, none⟩ = some (.int .i64 r) ∧ w'.cell? ⟨b6, 5, none⟩ = some (.int .i64 s) ∧ w'.cell? ⟨b6, 6, none⟩ = some (.int .i64 v) ∧ w'.cell? ⟨b6, 7, none⟩ = some (.slice A6 xs.length c6)) (go_keep) (fail)
    all_goals go_wp2
    all_goals (have X := XA.out; clear XA b0 b1 b2 b3 b4 c0 c1 c2 c3 c4 c5 c6_ c7 d0 d1 d2 d3 d4 e0 e1 e2 e3 e4 e5 e6 e7 k0 k1 k2 k3 k4 l0 l1 l2 l3 l4 l5 l6 l7; revert X; generalize World.setCell _ _ _ = WF; rintro ⟨RF, SF, BF, OF⟩; obtain ⟨b0, b1, b2, b3, b4⟩ := desc_cells RF; obtain ⟨c0, c1, c2, c3, c4, c5, c6_, c7⟩ := fr_cells SF; exact bodyPost_ret (v := .tuple #[.agg #[.int .i64 nd, .int .i64 fk, .int .i64 xs.length, .int .i64 y, .bool ch], .agg #[.int .i64 fk, .int .i64 q, .int .i64 t, .int .i64 m, .int .i64 r, .int .i64 s, .int .i64 v, .slice A6 xs.length c6]]) (by simp [results, Try.results59, go_sem, b0, b1, b2, b3, b4, c0, c1, c2, c3, c4, c5, c6_, c7]) rfl ⟨_, _, _, _, _, _, _, _, _, _, _, _, _, _, rfl, hx, (OF.less (by omega)).drew, BF.drew⟩)
  · go_upto_region 8 with fail
    obtain ⟨b0, b1, b2, b3, b4⟩ := desc_cells RB
    obtain ⟨c0, c1, c2, c3, c4, c5, c6_, c7⟩ := fr_cells RC
    obtain ⟨d0, d1, d2, d3, d4⟩ := desc_cells RD
    obtain ⟨e0, e1, e2, e3, e4, e5, e6, e7⟩ := fr_cells RS
    have k0 := frozen_of_row _ _ 0 _ _ RD
    have k1 := frozen_of_row _ _ 1 _ _ RD
    have k2 := frozen_of_row _ _ 2 _ _ RD
    have k3 := frozen_of_row _ _ 3 _ _ RD
    have k4 := frozen_of_row _ _ 4 _ _ RD
    have l0 := frozen_of_row _ _ 0 _ _ RS
    have l1 := frozen_of_row _ _ 1 _ _ RS
    have l2 := frozen_of_row _ _ 2 _ _ RS
    have l3 := frozen_of_row _ _ 3 _ _ RS
    have l4 := frozen_of_row _ _ 4 _ _ RS
    have l5 := frozen_of_row _ _ 5 _ _ RS
    have l6 := frozen_of_row _ _ 6 _ _ RS
    have l7 := frozen_of_row _ _ 7 _ _ RS
    have n1 : w.heap.size ≠ g1 := (by omega)
    have n2 : g1 ≠ w.heap.size := (by omega)
    have n3 : w.heap.size ≠ b5 := (by omega)
    have n4 : b5 ≠ w.heap.size := (by omega)
    have n5 : w.heap.size ≠ b6 := (by omega)
    have n6 : b6 ≠ w.heap.size := (by omega)
    have n7 : g1 ≠ b5 := (by omega)
    have n8 : b5 ≠ g1 := (by omega)
    have n9 : g1 ≠ b6 := (by omega)
    have n10 : b6 ≠ g1 := (by omega)
    have OF := (((((OX.setB (g := w.heap.size) (k := 0) (by omega) (.int .i64 nd)).setB (g := w.heap.size) (k := 1) (by omega) (.int .i64 k)).setB (g := w.heap.size) (k := 2) (by omega) (.int .i64 sz)).setB (g := w.heap.size) (k := 3) (by omega) (.int .i64 du)).setB (g := w.heap.size) (k := 4) (by omega) (.bool ch)).eight (g := g1) (by omega) (.int .i64 fk) (.int .i64 q) (.int .i64 t) (.int .i64 m) (.int .i64 r) (.int .i64 s) (.int .i64 v) (.slice A6 xs.length c6)
    have XA := Lib.hid (And.intro ((eight_other (g := g1) (h := w.heap.size) (v0 := .int .i64 fk) (v1 := .int .i64 q) (v2 := .int .i64 t) (v3 := .int .i64 m) (v4 := .int .i64 r) (v5 := .int .i64 s) (v6 := .int .i64 v) (v7 := .slice A6 xs.length c6) n1).trans (five_heap (v0 := .int .i64 nd) (v1 := .int .i64 k) (v2 := .int .i64 sz) (v3 := .int .i64 du) (v4 := .bool ch) RD)) (And.intro (eight_heap (v0 := .int .i64 fk) (v1 := .int .i64 q) (v2 := .int .i64 t) (v3 := .int .i64 m) (v4 := .int .i64 r) (v5 := .int .i64 s) (v6 := .int .i64 v) (v7 := .slice A6 xs.length c6) ((five_other (g := w.heap.size) (h := g1) (v0 := .int .i64 nd) (v1 := .int .i64 k) (v2 := .int .i64 sz) (v3 := .int .i64 du) (v4 := .bool ch) n2).trans RS)) (And.intro (below_eight (g := g1) (v0 := .int .i64 fk) (v1 := .int .i64 q) (v2 := .int .i64 t) (v3 := .int .i64 m) (v4 := .int .i64 r) (v5 := .int .i64 s) (v6 := .int .i64 v) (v7 := .slice A6 xs.length c6) (below_five (g := w.heap.size) (v0 := .int .i64 nd) (v1 := .int .i64 k) (v2 := .int .i64 sz) (v3 := .int .i64 du) (v4 := .bool ch) BW (Nat.le_refl _)) (by omega)) OF)))
    clear RD RS RB RC BW OX OF
    go_region_held3 (fun w' => w'.cell? ⟨b5, 0, none⟩ = some (.int .i64 nd) ∧ w'.cell? ⟨b5, 1, none⟩ = some (.int .i64 k) ∧ w'.cell? ⟨b5, 2, none⟩ = some (.int .i64 sz) ∧ w'.cell? ⟨b5, 3, none⟩ = some (.int .i64 du) ∧ w'.cell? ⟨b5, 4, none⟩ = some (.bool ch) ∧ w'.cell? ⟨b6, 0, none⟩ = some (.int .i64 fk) ∧ w'.cell? ⟨b6, 1, none⟩ = some (.int .i64 q) ∧ w'.cell? ⟨b6, 2, none⟩ = some (.int .i64 t) ∧ w'.cell? ⟨b6, 3, none⟩ = some (.int .i64 m) ∧ w'.cell? ⟨b6, 4, none⟩ = some (.int .i64 r) ∧ w'.cell? ⟨b6, 5, none⟩ = some (.int .i64 s) ∧ w'.cell? ⟨b6, 6, none⟩ = some (.int .i64 v) ∧ w'.cell? ⟨b6, 7, none⟩ = some (.slice A6 xs.length c6)) (go_keep) (fail)
    all_goals go_wp2
    all_goals (have X := XA.out; clear XA b0 b1 b2 b3 b4 c0 c1 c2 c3 c4 c5 c6_ c7 d0 d1 d2 d3 d4 e0 e1 e2 e3 e4 e5 e6 e7 k0 k1 k2 k3 k4 l0 l1 l2 l3 l4 l5 l6 l7; revert X; generalize World.setCell _ _ _ = WF; rintro ⟨RF, SF, BF, OF⟩; obtain ⟨b0, b1, b2, b3, b4⟩ := desc_cells RF; obtain ⟨c0, c1, c2, c3, c4, c5, c6_, c7⟩ := fr_cells SF; exact bodyPost_ret (v := .tuple #[.agg #[.int .i64 nd, .int .i64 k, .int .i64 sz, .int .i64 du, .bool ch], .agg #[.int .i64 fk, .int .i64 q, .int .i64 t, .int .i64 m, .int .i64 r, .int .i64 s, .int .i64 v, .slice A6 xs.length c6]]) (by simp [results, Try.results59, go_sem, b0, b1, b2, b3, b4, c0, c1, c2, c3, c4, c5, c6_, c7]) rfl ⟨_, _, _, _, _, _, _, _, _, _, _, _, _, _, rfl, hx, (OF.less (by omega)).drew, BF.drew⟩)
end Go.Proofs.Ytecelofoffdjlaa

/- Contracts of emptyFrame and EmptyFrame. -/
import Derived.Test.YtecelofoffdjlaaFrmH
import Derived.Test.YtecelofoffdjlaaDesc2
import Derived.Deep.RegionHeld3
import Derived.RegionTactic
import Derived.BigRegion
import Derived.Deep.Cut
namespace Go.Proofs.Ytecelofoffdjlaa
open Go.RowKit
set_option linter.unusedSimpArgs false
set_option linter.unusedVariables false
theorem make_run (n : Nat) (hn : n ≤ 1000000) (w : World) :
    (Instr.makeSlice 29 (.int .i64 (n : Int)) (.int .i64 (n : Int))).run Try.prog w = .ok (.slice (some ⟨w.heap.size, 0, none⟩) n n) (w.alloc (.cells ((List.replicate n 0).map (Value.int .i64)).toArray 2)) := by
  obtain ⟨i0, hi, hz0, hz1, hz2⟩ := info_parts int_info
  have h := run_make (P := Try.prog) w 29 2 i0 (.int .i64 0) Try.underlying29 hi hz0 .i64 .i64 (n : Int) (n : Int) (by omega) (Int.le_refl _) (by rw [hz2]; omega) (by omega)
  rw [h, Int.toNat_natCast, hz1, Nat.mul_one]
  have e : madeCells (Value.int .i64 0).cells n = ((List.replicate n 0).map (Value.int .i64)).toArray := by
    apply Array.ext'
    rw [show (Value.int IntKind.i64 0).cells = #[Value.int .i64 0] from rfl, toList_madeCells_one]
    simp
  rw [e]
theorem own_of_row {W : World} {base g : Nat} (n : Nat) (hn : n ≤ 1000000) (hb : base ≤ g) (h : W.heap[g]? = some (Obj.cells ((List.replicate n 0).map (Value.int .i64)).toArray 2)) :
    IOwn W base (.slice (some ⟨g, 0, none⟩) n n) (List.replicate n 0) := by
  unfold IOwn
  rw [List.length_replicate]
  refine ⟨by simp, .inr ⟨g, n, _, rfl, hb, h, Nat.le_refl _, by unfold maxLen; omega, by simp, by simp⟩⟩
theorem alloc5_of {w W : World} {a b c d e : Obj} (hW : ((((w.alloc a).alloc b).alloc c).alloc d).alloc e = W) :
    W.heap[w.heap.size]? = some a ∧ W.heap[w.heap.size + 1]? = some b ∧ W.heap[w.heap.size + 1 + 1]? = some c ∧ W.heap[w.heap.size + 1 + 1 + 1]? = some d ∧ W.heap[w.heap.size + 1 + 1 + 1 + 1]? = some e ∧ Below w.heap.size w W := by
  subst hW
  obtain ⟨h1, h2, h3⟩ := alloc3 w a b c
  obtain ⟨h4, h5⟩ := alloc2 (((w.alloc a).alloc b).alloc c) d e
  have hs : (((w.alloc a).alloc b).alloc c).heap.size = w.heap.size + 1 + 1 + 1 := by simp
  rw [hs] at h4 h5
  have up : ∀ k, k < w.heap.size + 1 + 1 + 1 → (((((w.alloc a).alloc b).alloc c).alloc d).alloc e).heap[k]? = (((w.alloc a).alloc b).alloc c).heap[k]? := fun k hk =>
    (Below.heap_alloc _ _ k (by simp; omega)).trans (Below.heap_alloc _ _ k (by rw [hs]; exact hk))
  exact ⟨(up _ (by omega)).trans h1, (up _ (by omega)).trans h2, (up _ (by omega)).trans h3, h4, h5, ((below_alloc3 w a b c).alloc (by simp; omega) _).alloc (by simp; omega) _⟩
theorem bne_of {a b : Int} (h : (a == b) = false) : (a != b) = true := by rw [bne, h]; rfl
theorem alloc3_of {w W : World} {a b c : Obj} (hW : ((w.alloc a).alloc b).alloc c = W) :
    W.heap[w.heap.size]? = some a ∧ W.heap[w.heap.size + 1]? = some b ∧ W.heap[w.heap.size + 1 + 1]? = some c ∧ Below w.heap.size w W := by
  subst hW
  obtain ⟨h1, h2, h3⟩ := alloc3 w a b c
  exact ⟨h1, h2, h3, below_alloc3 w a b c⟩
theorem alloc2_of {w0 w W : World} (B : Nat) {g0 g1 g2 : Nat} {a b c d e : Obj} (hW : (w.alloc d).alloc e = W) (h0 : w.heap[g0]? = some a) (h1 : w.heap[g1]? = some b) (h2 : w.heap[g2]? = some c) (hB : Below w0.heap.size w0 w) :
    W.heap[g0]? = some a ∧ W.heap[g1]? = some b ∧ W.heap[g2]? = some c ∧ W.heap[w.heap.size]? = some d ∧ W.heap[w.heap.size + 1]? = some e ∧ Below w0.heap.size w0 W := by
  subst hW
  obtain ⟨h4, h5⟩ := alloc2 w d e
  have up : ∀ k o, w.heap[k]? = some o → ((w.alloc d).alloc e).heap[k]? = some o := fun k o hk =>
    (Below.heap_alloc _ _ k (by simp; have := Below.lt_of' hk; omega)).trans ((Below.heap_alloc _ _ k (Below.lt_of' hk)).trans hk)
  exact ⟨up _ _ h0, up _ _ h1, up _ _ h2, h4, h5, (hB.alloc hB.size _).alloc (by have := hB.size; simp; omega) _⟩
theorem alloc2_ofd {w0 w W : World} (B : Nat) {g0 g1 g2 : Nat} {a b c d e : Obj} (hW : ((w.alloc d).alloc e).drew = W) (h0 : w.heap[g0]? = some a) (h1 : w.heap[g1]? = some b) (h2 : w.heap[g2]? = some c) (hB : Below w0.heap.size w0 w) :
    W.heap[g0]? = some a ∧ W.heap[g1]? = some b ∧ W.heap[g2]? = some c ∧ W.heap[w.heap.size]? = some d ∧ W.heap[w.heap.size + 1]? = some e ∧ Below w0.heap.size w0 W := by
  subst hW
  obtain ⟨k0, k1, k2, k3, k4, k5⟩ := alloc2_of B rfl h0 h1 h2 hB
  exact ⟨k0, k1, k2, k3, k4, k5.drew⟩
theorem eight_other {w : World} {g h : Nat} {v0 v1 v2 v3 v4 v5 v6 v7 : Value} (hn : h ≠ g) :
    ((((((((w.setCell ⟨g, 0, none⟩ v0).setCell ⟨g, 1, none⟩ v1).setCell ⟨g, 2, none⟩ v2).setCell ⟨g, 3, none⟩ v3).setCell ⟨g, 4, none⟩ v4).setCell ⟨g, 5, none⟩ v5).setCell ⟨g, 6, none⟩ v6).setCell ⟨g, 7, none⟩ v7).heap[h]? = w.heap[h]? := by
  rw [heap_setCell_other _ _ _ _ hn, heap_setCell_other _ _ _ _ hn, heap_setCell_other _ _ _ _ hn, heap_setCell_other _ _ _ _ hn, heap_setCell_other _ _ _ _ hn, heap_setCell_other _ _ _ _ hn, heap_setCell_other _ _ _ _ hn, heap_setCell_other _ _ _ _ hn]
def stZ (k x : Int) : Int := if k = 0 then 0 else x
theorem i_hasState (k : Int) (w : World) : Calls Try.prog 102 #[.int .i64 k] w fun e w' => e = .returned (.bool (k != 0)) ∧ w = w' := by
  go_enter Try.func102, Try.ntmps102
  go_wp2
  go_ret
  exact ⟨rfl, rfl⟩
theorem s_l06State (k : Int) (w : World) : Calls Try.prog 76 #[.int .i64 k] w fun e w' => e = .returned (.bool (k != 0)) ∧ w = w' := by
  go_enter Try.func76, Try.ntmps76
  go_wp2
  go_ret
  exact ⟨rfl, rfl⟩
set_option maxHeartbeats 2000000 in
theorem i_emptyFrame (nd dk : Int) (n : Nat) (du : Int) (ch : Bool) (t m r s v : Int) (w : World) (hn : n ≤ 255) :
    Calls Try.prog 77 #[.agg #[.int .i64 nd, .int .i64 dk, .int .i64 n, .int .i64 du, .bool ch], .agg #[.int .i64 t, .int .i64 m, .int .i64 r, .int .i64 s, .int .i64 v]] w fun e w' =>
      ∃ vs, e = .returned (.agg #[.int .i64 dk, .int .i64 0, .int .i64 (stZ dk t), .int .i64 (stZ dk m), .int .i64 (stZ dk r), .int .i64 (stZ dk s), .int .i64 (stZ dk v), vs]) ∧ IOwn w' w.heap.size vs (List.replicate n 0) ∧ Below w.heap.size w w' := by
  have hmk := make_run n (by omega)
  have HO : Hid (∀ (W : World) (base g : Nat), base ≤ g → W.heap[g]? = some (Obj.cells ((List.replicate n 0).map (Value.int .i64)).toArray 2) → IOwn W base (.slice (some ⟨g, 0, none⟩) n n) (List.replicate n 0)) := Lib.hid (fun W base g hb hg => own_of_row n (by omega) hb hg)
  obtain ⟨O, hO⟩ : ∃ O, O = Obj.cells ((List.replicate n 0).map (Value.int .i64)).toArray 2 := ⟨_, rfl⟩
  rw [← hO] at hmk HO
  clear hO
  have hst : ∀ x, stZ dk x = if (dk == 0) = true then 0 else x := fun x => by simp only [stZ, beq_iff_eq]
  have Z0 := hst t; have Z1 := hst m; have Z2 := hst r; have Z3 := hst s; have Z4 := hst v
  clear hst
  cases hk : (dk == 0)
  · rw [hk] at Z0 Z1 Z2 Z3 Z4
    simp only [Bool.false_eq_true, if_false] at Z0 Z1 Z2 Z3 Z4
    have Z0 := Lib.hid Z0; have Z1 := Lib.hid Z1; have Z2 := Lib.hid Z2; have Z3 := Lib.hid Z3; have Z4 := Lib.hid Z4
    have hk' := bne_of hk
    go_enter Try.func77, Try.ntmps77
    go_wp2
    generalize hW0 : World.alloc _ _ = W0
    obtain ⟨x0, x1, x2, BW0⟩ := alloc3_of hW0
    clear hW0
    have zW0 := Below.lt_of' x2
    have y1 : w.heap.size < w.heap.size + 1 := (by omega)
    have y2 : w.heap.size + 1 < w.heap.size + 1 + 1 := (by omega)
    generalize w.heap.size + 1 + 1 = g2 at x2 y2 zW0 ⊢
    generalize w.heap.size + 1 = g1 at x1 y1 y2 ⊢
    have ne0 : W0.heap.size ≠ w.heap.size := (by omega)
    have ne1 : W0.heap.size + 1 ≠ w.heap.size := (by omega)
    obtain ⟨-, d1, d2, -, -⟩ := desc_cells x0
    have X0 := Lib.hid x0; have X1 := Lib.hid x1; have X2 := Lib.hid x2; have BX := Lib.hid BW0
    clear x0 x1 x2 BW0
    go_region_held3 (fun w' => w'.cell? ⟨w.heap.size, 1, none⟩ = some (.int .i64 dk) ∧ w'.cell? ⟨w.heap.size, 2, none⟩ = some (.int .i64 n)) (go_keep) (fail)
    all_goals (rename_i hh; clear hh; generalize hW : World.drew _ = W; obtain ⟨x0, x1, x2, x3, x4, BW⟩ := alloc2_ofd 0 hW X0.out X1.out X2.out BX.out; clear hW X0 X1 X2 BX d1 d2; have zW := Below.lt_of' x4; have y4 : W0.heap.size < W0.heap.size + 1 := (by omega); generalize W0.heap.size + 1 = g4 at x3 x4 y4 zW ⊢; generalize W0.heap.size = g3 at x3 x4 y4 zW0 ⊢; clear ne0 ne1)
    all_goals first | (have nr : g2 ≠ g4 := (by omega); have nl : g3 ≠ g4 := (by omega); have nlr : g3 ≠ g2 := (by omega); have chk := fr_cells x4; clear chk; obtain ⟨d0, d1, d2, d3, d4⟩ := desc_cells x0; obtain ⟨s0, s1, s2, s3, s4⟩ := desc_cells x1; obtain ⟨e0, e1, e2, e3, e4, e5, e6, e7⟩ := fr_cells x4; have k2 := frozen_of_row _ _ 2 _ _ x4; have k3 := frozen_of_row _ _ 3 _ _ x4; have k4 := frozen_of_row _ _ 4 _ _ x4; have k5 := frozen_of_row _ _ 5 _ _ x4; have k6 := frozen_of_row _ _ 6 _ _ x4; have Rf := Lib.hid (five_heap8 (v2 := .int .i64 t) (v3 := .int .i64 m) (v4 := .int .i64 r) (v5 := .int .i64 s) (v6 := .int .i64 v) x4); have Rr := Lib.hid ((five_other8 (w := W) (g := g4) (h := g2) (v2 := .int .i64 t) (v3 := .int .i64 m) (v4 := .int .i64 r) (v5 := .int .i64 s) (v6 := .int .i64 v) nr).trans x2); have Rl := Lib.hid ((five_other8 (w := W) (g := g4) (h := g3) (v2 := .int .i64 t) (v3 := .int .i64 m) (v4 := .int .i64 r) (v5 := .int .i64 s) (v6 := .int .i64 v) nl).trans x3); have BB := Lib.hid (below_five8 (g := g4) (v2 := .int .i64 t) (v3 := .int .i64 m) (v4 := .int .i64 r) (v5 := .int .i64 s) (v6 := .int .i64 v) BW (by omega)); clear x0 x1 x2 x3 x4 BW; go_upto_region 4 with ((go_at_call 102; refine (i_hasState _ _).mono ?_; rintro e w' ⟨rfl, rfl⟩)); have rf := Rf.out; have rr := Rr.out; have rl := Rl.out; have B := BB.out; clear Rf Rr Rl BB d0 d1 d2 d3 d4 s0 s1 s2 s3 s4 e0 e1 e2 e3 e4 e5 e6 e7 k2 k3 k4 k5 k6; generalize World.setCell _ _ _ = W2 at rf rr rl B ⊢; obtain ⟨e0, e1, e2, e3, e4, e5, e6, e7⟩ := fr_cells rf; obtain ⟨d0, d1, d2, d3, d4, d5, d6, d7⟩ := fr_cells rr; have k0 := frozen_of_row _ _ 0 _ _ rr; have k1 := frozen_of_row _ _ 1 _ _ rr; have k2 := frozen_of_row _ _ 2 _ _ rr; have k3 := frozen_of_row _ _ 3 _ _ rr; have k4 := frozen_of_row _ _ 4 _ _ rr; have k5 := frozen_of_row _ _ 5 _ _ rr; have k6 := frozen_of_row _ _ 6 _ _ rr; have k7 := frozen_of_row _ _ 7 _ _ rr; have Rr := Lib.hid (eight_heap (v0 := .int .i64 dk) (v1 := .int .i64 0) (v2 := .int .i64 t) (v3 := .int .i64 m) (v4 := .int .i64 r) (v5 := .int .i64 s) (v6 := .int .i64 v) (v7 := .slice (some ⟨g3, 0, none⟩) n n) rr); have Rl := Lib.hid ((eight_other (g := g2) (h := g3) (v0 := .int .i64 dk) (v1 := .int .i64 0) (v2 := .int .i64 t) (v3 := .int .i64 m) (v4 := .int .i64 r) (v5 := .int .i64 s) (v6 := .int .i64 v) (v7 := .slice (some ⟨g3, 0, none⟩) n n) nlr).trans rl); have BB := Lib.hid (below_eight (v0 := .int .i64 dk) (v1 := .int .i64 0) (v2 := .int .i64 t) (v3 := .int .i64 m) (v4 := .int .i64 r) (v5 := .int .i64 s) (v6 := .int .i64 v) (v7 := .slice (some ⟨g3, 0, none⟩) n n) B (g := g2) (by omega)); clear rf rr rl B; go_wp2; have R := Rr.out; have O1 := Rl.out; have B5 := BB.out; clear Rr Rl BB e0 e1 e2 e3 e4 e5 e6 e7 d0 d1 d2 d3 d4 d5 d6 d7 k0 k1 k2 k3 k4 k5 k6 k7; revert R O1 B5; generalize World.setCell _ _ _ = W3; intro R O1 B5; obtain ⟨e0, e1, e2, e3, e4, e5, e6, e7⟩ := fr_cells R; exact bodyPost_ret (v := .agg #[.int .i64 dk, .int .i64 0, .int .i64 t, .int .i64 m, .int .i64 r, .int .i64 s, .int .i64 v, .slice (some ⟨g3, 0, none⟩) n n]) (by simp [results, Try.results77, go_sem, e0, e1, e2, e3, e4, e5, e6, e7]) rfl ⟨_, by rw [Z0.out, Z1.out, Z2.out, Z3.out, Z4.out], HO.out W3 _ _ (by omega) O1, B5⟩) | (have nr : g2 ≠ g3 := (by omega); have nl : g4 ≠ g3 := (by omega); have nlr : g4 ≠ g2 := (by omega); have chk := fr_cells x3; clear chk; obtain ⟨d0, d1, d2, d3, d4⟩ := desc_cells x0; obtain ⟨s0, s1, s2, s3, s4⟩ := desc_cells x1; obtain ⟨e0, e1, e2, e3, e4, e5, e6, e7⟩ := fr_cells x3; have k2 := frozen_of_row _ _ 2 _ _ x3; have k3 := frozen_of_row _ _ 3 _ _ x3; have k4 := frozen_of_row _ _ 4 _ _ x3; have k5 := frozen_of_row _ _ 5 _ _ x3; have k6 := frozen_of_row _ _ 6 _ _ x3; have Rf := Lib.hid (five_heap8 (v2 := .int .i64 t) (v3 := .int .i64 m) (v4 := .int .i64 r) (v5 := .int .i64 s) (v6 := .int .i64 v) x3); have Rr := Lib.hid ((five_other8 (w := W) (g := g3) (h := g2) (v2 := .int .i64 t) (v3 := .int .i64 m) (v4 := .int .i64 r) (v5 := .int .i64 s) (v6 := .int .i64 v) nr).trans x2); have Rl := Lib.hid ((five_other8 (w := W) (g := g3) (h := g4) (v2 := .int .i64 t) (v3 := .int .i64 m) (v4 := .int .i64 r) (v5 := .int .i64 s) (v6 := .int .i64 v) nl).trans x4); have BB := Lib.hid (below_five8 (g := g3) (v2 := .int .i64 t) (v3 := .int .i64 m) (v4 := .int .i64 r) (v5 := .int .i64 s) (v6 := .int .i64 v) BW (by omega)); clear x0 x1 x2 x3 x4 BW; go_upto_region 4 with ((go_at_call 102; refine (i_hasState _ _).mono ?_; rintro e w' ⟨rfl, rfl⟩)); have rf := Rf.out; have rr := Rr.out; have rl := Rl.out; have B := BB.out; clear Rf Rr Rl BB d0 d1 d2 d3 d4 s0 s1 s2 s3 s4 e0 e1 e2 e3 e4 e5 e6 e7 k2 k3 k4 k5 k6; generalize World.setCell _ _ _ = W2 at rf rr rl B ⊢; obtain ⟨e0, e1, e2, e3, e4, e5, e6, e7⟩ := fr_cells rf; obtain ⟨d0, d1, d2, d3, d4, d5, d6, d7⟩ := fr_cells rr; have k0 := frozen_of_row _ _ 0 _ _ rr; have k1 := frozen_of_row _ _ 1 _ _ rr; have k2 := frozen_of_row _ _ 2 _ _ rr; have k3 := frozen_of_row _ _ 3 _ _ rr; have k4 := frozen_of_row _ _ 4 _ _ rr; have k5 := frozen_of_row _ _ 5 _ _ rr; have k6 := frozen_of_row _ _ 6 _ _ rr; have k7 := frozen_of_row _ _ 7 _ _ rr; have Rr := Lib.hid (eight_heap (v0 := .int .i64 dk) (v1 := .int .i64 0) (v2 := .int .i64 t) (v3 := .int .i64 m) (v4 := .int .i64 r) (v5 := .int .i64 s) (v6 := .int .i64 v) (v7 := .slice (some ⟨g4, 0, none⟩) n n) rr); have Rl := Lib.hid ((eight_other (g := g2) (h := g4) (v0 := .int .i64 dk) (v1 := .int .i64 0) (v2 := .int .i64 t) (v3 := .int .i64 m) (v4 := .int .i64 r) (v5 := .int .i64 s) (v6 := .int .i64 v) (v7 := .slice (some ⟨g4, 0, none⟩) n n) nlr).trans rl); have BB := Lib.hid (below_eight (v0 := .int .i64 dk) (v1 := .int .i64 0) (v2 := .int .i64 t) (v3 := .int .i64 m) (v4 := .int .i64 r) (v5 := .int .i64 s) (v6 := .int .i64 v) (v7 := .slice (some ⟨g4, 0, none⟩) n n) B (g := g2) (by omega)); clear rf rr rl B; go_wp2; have R := Rr.out; have O1 := Rl.out; have B5 := BB.out; clear Rr Rl BB e0 e1 e2 e3 e4 e5 e6 e7 d0 d1 d2 d3 d4 d5 d6 d7 k0 k1 k2 k3 k4 k5 k6 k7; revert R O1 B5; generalize World.setCell _ _ _ = W3; intro R O1 B5; obtain ⟨e0, e1, e2, e3, e4, e5, e6, e7⟩ := fr_cells R; exact bodyPost_ret (v := .agg #[.int .i64 dk, .int .i64 0, .int .i64 t, .int .i64 m, .int .i64 r, .int .i64 s, .int .i64 v, .slice (some ⟨g4, 0, none⟩) n n]) (by simp [results, Try.results77, go_sem, e0, e1, e2, e3, e4, e5, e6, e7]) rfl ⟨_, by rw [Z0.out, Z1.out, Z2.out, Z3.out, Z4.out], HO.out W3 _ _ (by omega) O1, B5⟩)
  · rw [hk] at Z0 Z1 Z2 Z3 Z4
    simp only [if_true] at Z0 Z1 Z2 Z3 Z4
    have Z0 := Lib.hid Z0; have Z1 := Lib.hid Z1; have Z2 := Lib.hid Z2; have Z3 := Lib.hid Z3; have Z4 := Lib.hid Z4
    go_enter Try.func77, Try.ntmps77
    go_wp2
    generalize hW0 : World.alloc _ _ = W0
    obtain ⟨x0, x1, x2, BW0⟩ := alloc3_of hW0
    clear hW0
    have zW0 := Below.lt_of' x2
    have y1 : w.heap.size < w.heap.size + 1 := (by omega)
    have y2 : w.heap.size + 1 < w.heap.size + 1 + 1 := (by omega)
    generalize w.heap.size + 1 + 1 = g2 at x2 y2 zW0 ⊢
    generalize w.heap.size + 1 = g1 at x1 y1 y2 ⊢
    have ne0 : W0.heap.size ≠ w.heap.size := (by omega)
    have ne1 : W0.heap.size + 1 ≠ w.heap.size := (by omega)
    obtain ⟨-, d1, d2, -, -⟩ := desc_cells x0
    have X0 := Lib.hid x0; have X1 := Lib.hid x1; have X2 := Lib.hid x2; have BX := Lib.hid BW0
    clear x0 x1 x2 BW0
    go_region_held3 (fun w' => w'.cell? ⟨w.heap.size, 1, none⟩ = some (.int .i64 dk) ∧ w'.cell? ⟨w.heap.size, 2, none⟩ = some (.int .i64 n)) (go_keep) (fail)
    all_goals (rename_i hh; clear hh; generalize hW : World.drew _ = W; obtain ⟨x0, x1, x2, x3, x4, BW⟩ := alloc2_ofd 0 hW X0.out X1.out X2.out BX.out; clear hW X0 X1 X2 BX d1 d2; have zW := Below.lt_of' x4; have y4 : W0.heap.size < W0.heap.size + 1 := (by omega); generalize W0.heap.size + 1 = g4 at x3 x4 y4 zW ⊢; generalize W0.heap.size = g3 at x3 x4 y4 zW0 ⊢; clear ne0 ne1)
    all_goals first | (have nr : g2 ≠ g4 := (by omega); have nl : g3 ≠ g4 := (by omega); have nlr : g3 ≠ g2 := (by omega); have chk := fr_cells x4; clear chk; obtain ⟨d0, d1, d2, d3, d4⟩ := desc_cells x0; have rf := x4; have rr := x2; have rl := x3; have B := BW; have Rf := Lib.hid rf; have Rr := Lib.hid rr; have Rl := Lib.hid rl; have BB := Lib.hid B; clear x0 x1 x2 x3 x4 BW rf rr rl B; go_upto_region 4 with ((go_at_call 102; refine (i_hasState _ _).mono ?_; rintro e w' ⟨rfl, rfl⟩)); have rf := Rf.out; have rr := Rr.out; have rl := Rl.out; have B := BB.out; clear Rf Rr Rl BB; obtain ⟨e0, e1, e2, e3, e4, e5, e6, e7⟩ := fr_cells rf; obtain ⟨d0, d1, d2, d3, d4, d5, d6, d7⟩ := fr_cells rr; have k0 := frozen_of_row _ _ 0 _ _ rr; have k1 := frozen_of_row _ _ 1 _ _ rr; have k2 := frozen_of_row _ _ 2 _ _ rr; have k3 := frozen_of_row _ _ 3 _ _ rr; have k4 := frozen_of_row _ _ 4 _ _ rr; have k5 := frozen_of_row _ _ 5 _ _ rr; have k6 := frozen_of_row _ _ 6 _ _ rr; have k7 := frozen_of_row _ _ 7 _ _ rr; have Rr := Lib.hid (eight_heap (v0 := .int .i64 dk) (v1 := .int .i64 0) (v2 := .int .i64 0) (v3 := .int .i64 0) (v4 := .int .i64 0) (v5 := .int .i64 0) (v6 := .int .i64 0) (v7 := .slice (some ⟨g3, 0, none⟩) n n) rr); have Rl := Lib.hid ((eight_other (g := g2) (h := g3) (v0 := .int .i64 dk) (v1 := .int .i64 0) (v2 := .int .i64 0) (v3 := .int .i64 0) (v4 := .int .i64 0) (v5 := .int .i64 0) (v6 := .int .i64 0) (v7 := .slice (some ⟨g3, 0, none⟩) n n) nlr).trans rl); have BB := Lib.hid (below_eight (v0 := .int .i64 dk) (v1 := .int .i64 0) (v2 := .int .i64 0) (v3 := .int .i64 0) (v4 := .int .i64 0) (v5 := .int .i64 0) (v6 := .int .i64 0) (v7 := .slice (some ⟨g3, 0, none⟩) n n) B (g := g2) (by omega)); clear rf rr rl B; go_wp2; have R := Rr.out; have O1 := Rl.out; have B5 := BB.out; clear Rr Rl BB e0 e1 e2 e3 e4 e5 e6 e7 d0 d1 d2 d3 d4 d5 d6 d7 k0 k1 k2 k3 k4 k5 k6 k7; revert R O1 B5; generalize World.setCell _ _ _ = W3; intro R O1 B5; obtain ⟨e0, e1, e2, e3, e4, e5, e6, e7⟩ := fr_cells R; exact bodyPost_ret (v := .agg #[.int .i64 dk, .int .i64 0, .int .i64 0, .int .i64 0, .int .i64 0, .int .i64 0, .int .i64 0, .slice (some ⟨g3, 0, none⟩) n n]) (by simp [results, Try.results77, go_sem, e0, e1, e2, e3, e4, e5, e6, e7]) rfl ⟨_, by rw [Z0.out, Z1.out, Z2.out, Z3.out, Z4.out], HO.out W3 _ _ (by omega) O1, B5⟩) | (have nr : g2 ≠ g3 := (by omega); have nl : g4 ≠ g3 := (by omega); have nlr : g4 ≠ g2 := (by omega); have chk := fr_cells x3; clear chk; obtain ⟨d0, d1, d2, d3, d4⟩ := desc_cells x0; have rf := x3; have rr := x2; have rl := x4; have B := BW; have Rf := Lib.hid rf; have Rr := Lib.hid rr; have Rl := Lib.hid rl; have BB := Lib.hid B; clear x0 x1 x2 x3 x4 BW rf rr rl B; go_upto_region 4 with ((go_at_call 102; refine (i_hasState _ _).mono ?_; rintro e w' ⟨rfl, rfl⟩)); have rf := Rf.out; have rr := Rr.out; have rl := Rl.out; have B := BB.out; clear Rf Rr Rl BB; obtain ⟨e0, e1, e2, e3, e4, e5, e6, e7⟩ := fr_cells rf; obtain ⟨d0, d1, d2, d3, d4, d5, d6, d7⟩ := fr_cells rr; have k0 := frozen_of_row _ _ 0 _ _ rr; have k1 := frozen_of_row _ _ 1 _ _ rr; have k2 := frozen_of_row _ _ 2 _ _ rr; have k3 := frozen_of_row _ _ 3 _ _ rr; have k4 := frozen_of_row _ _ 4 _ _ rr; have k5 := frozen_of_row _ _ 5 _ _ rr; have k6 := frozen_of_row _ _ 6 _ _ rr; have k7 := frozen_of_row _ _ 7 _ _ rr; have Rr := Lib.hid (eight_heap (v0 := .int .i64 dk) (v1 := .int .i64 0) (v2 := .int .i64 0) (v3 := .int .i64 0) (v4 := .int .i64 0) (v5 := .int .i64 0) (v6 := .int .i64 0) (v7 := .slice (some ⟨g4, 0, none⟩) n n) rr); have Rl := Lib.hid ((eight_other (g := g2) (h := g4) (v0 := .int .i64 dk) (v1 := .int .i64 0) (v2 := .int .i64 0) (v3 := .int .i64 0) (v4 := .int .i64 0) (v5 := .int .i64 0) (v6 := .int .i64 0) (v7 := .slice (some ⟨g4, 0, none⟩) n n) nlr).trans rl); have BB := Lib.hid (below_eight (v0 := .int .i64 dk) (v1 := .int .i64 0) (v2 := .int .i64 0) (v3 := .int .i64 0) (v4 := .int .i64 0) (v5 := .int .i64 0) (v6 := .int .i64 0) (v7 := .slice (some ⟨g4, 0, none⟩) n n) B (g := g2) (by omega)); clear rf rr rl B; go_wp2; have R := Rr.out; have O1 := Rl.out; have B5 := BB.out; clear Rr Rl BB e0 e1 e2 e3 e4 e5 e6 e7 d0 d1 d2 d3 d4 d5 d6 d7 k0 k1 k2 k3 k4 k5 k6 k7; revert R O1 B5; generalize World.setCell _ _ _ = W3; intro R O1 B5; obtain ⟨e0, e1, e2, e3, e4, e5, e6, e7⟩ := fr_cells R; exact bodyPost_ret (v := .agg #[.int .i64 dk, .int .i64 0, .int .i64 0, .int .i64 0, .int .i64 0, .int .i64 0, .int .i64 0, .slice (some ⟨g4, 0, none⟩) n n]) (by simp [results, Try.results77, go_sem, e0, e1, e2, e3, e4, e5, e6, e7]) rfl ⟨_, by rw [Z0.out, Z1.out, Z2.out, Z3.out, Z4.out], HO.out W3 _ _ (by omega) O1, B5⟩)
end Go.Proofs.Ytecelofoffdjlaa

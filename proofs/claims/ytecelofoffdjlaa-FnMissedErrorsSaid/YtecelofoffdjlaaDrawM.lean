/- The draw of two states. -/
import Derived.Test.YtecelofoffdjlaaDrawS
import Derived.Test.YtecelofoffdjlaaDrawB
import Derived.Test.YtecelofoffdjlaaEmp
import Derived.Deep.RegionHeld3
import Derived.BigRegion
import Derived.RegionTactic
import Derived.Deep.CutRange
namespace Go.Proofs.Ytecelofoffdjlaa
open Go.RowKit
set_option linter.unusedSimpArgs false
set_option linter.unusedVariables false
/-- Each of these blocks is a state. -/
def R5 (gs : List Nat) (W : World) : Prop := ∀ q ∈ gs, ∃ t m r s v : Int, W.heap[q]? = some (.cells #[.int .i64 t, .int .i64 m, .int .i64 r, .int .i64 s, .int .i64 v] 45 (0, 0))
structure DM (w : World) (B g : Nat) (gs : List Nat) (W : World) : Prop where
  src : Src W B g
  bel : Below w.heap.size w W
  r5 : R5 gs W
  ge : ∀ q ∈ gs, w.heap.size ≤ q ∧ q ≠ g
  hB : B ≤ w.heap.size
  hg : w.heap.size ≤ g
section
variable {w W W' : World} {B g q : Nat} {gs : List Nat}
theorem R5.lt (h : R5 gs W) (hq : q ∈ gs) : q < W.heap.size := by
  obtain ⟨t, m, r, s, v, R⟩ := h q hq
  exact Below.ltK R
theorem R5.next (h : R5 gs W) (b : Below W.heap.size W W') : R5 gs W' := fun q hq => by
  obtain ⟨t, m, r, s, v, R⟩ := h q hq
  exact ⟨t, m, r, s, v, (b.block q (Below.ltK R)).trans R⟩
theorem R5.set (h : R5 gs W) {p i : Nat} (hi : i < 5) (x : Int) : R5 gs (W.setCell ⟨p, i, none⟩ (.int .i64 x)) := fun q hq => by
  obtain ⟨t, m, r, s, v, R⟩ := h q hq
  by_cases e : q = p
  · subst e
    match i, hi with
    | 0, _ => exact ⟨_, _, _, _, _, set0 R⟩
    | 1, _ => exact ⟨_, _, _, _, _, set1 R⟩
    | 2, _ => exact ⟨_, _, _, _, _, set2 R⟩
    | 3, _ => exact ⟨_, _, _, _, _, set3 R⟩
    | 4, _ => exact ⟨_, _, _, _, _, set4 R⟩
  · exact ⟨t, m, r, s, v, (heap_setCell_other _ _ _ _ (by show q ≠ p; exact e)).trans R⟩
theorem DM.drew (h : DM w B g gs W) : DM w B g gs W.drew := ⟨h.src, h.bel.drew, h.r5, h.ge, h.hB, h.hg⟩
theorem DM.draw (h : DM w B g gs W) (S' : Src W' B g) (gg : W.grownBy W' (some g)) : DM w B g gs W' :=
  ⟨S', h.bel.trans (grown_below gg h.bel.size (fun q hq => by injection hq with hq; have := h.hg; omega)), fun q hq => by
    obtain ⟨t, m, r, s, v, R⟩ := h.r5 q hq
    exact ⟨t, m, r, s, v, zkeep R gg (fun e => (h.ge q hq).2 e.symm)⟩, h.ge, h.hB, h.hg⟩
theorem DM.alloc (h : DM w B g gs W) (o : Obj) : DM w B g gs (W.alloc o) :=
  ⟨h.src.alloc o, h.bel.alloc h.bel.size o, h.r5.next ((Below.refl _ _).alloc (Nat.le_refl _) o), h.ge, h.hB, h.hg⟩
theorem DM.next (h : DM w B g gs W) (b : Below W.heap.size W W') : DM w B g gs W' :=
  ⟨h.src.below b, h.bel.trans (b.mono h.bel.size), h.r5.next b, h.ge, h.hB, h.hg⟩
theorem DM.push (h : DM w B g gs W) (t m r s v : Int) : DM w B g (W.heap.size :: gs) (W.alloc (.cells #[.int .i64 t, .int .i64 m, .int .i64 r, .int .i64 s, .int .i64 v] 45)) :=
  ⟨h.src.alloc _, h.bel.alloc h.bel.size _, fun q hq => by
    rcases List.mem_cons.1 hq with rfl | hq
    · exact ⟨t, m, r, s, v, heap_alloc_new W _⟩
    · exact (h.alloc _).r5 q hq, fun q hq => by
    rcases List.mem_cons.1 hq with rfl | hq
    · exact ⟨h.bel.size, fun e => by have := h.src.lt; omega⟩
    · exact h.ge q hq, h.hB, h.hg⟩
theorem DM.set (h : DM w B g gs W) {i : Nat} (hq : q ∈ gs) (hi : i < 5) (x : Int) : DM w B g gs (W.setCell ⟨q, i, none⟩ (.int .i64 x)) :=
  ⟨src_set h.src (h.ge q hq).2 (by have := (h.ge q hq).1; have := h.hB; omega) i _, h.bel.setCell (p := ⟨q, i, none⟩) (h.ge q hq).1 _, h.r5.set hi x, h.ge, h.hB, h.hg⟩
theorem DM.five (h : DM w B g gs W) (hq : q ∈ gs) (a b c d e : Int) : DM w B g gs (((((W.setCell ⟨q, 0, none⟩ (.int .i64 a)).setCell ⟨q, 1, none⟩ (.int .i64 b)).setCell ⟨q, 2, none⟩ (.int .i64 c)).setCell ⟨q, 3, none⟩ (.int .i64 d)).setCell ⟨q, 4, none⟩ (.int .i64 e)) :=
  ((((h.set hq (by decide) a).set hq (by decide) b).set hq (by decide) c).set hq (by decide) d).set hq (by decide) e
end
def DrewSS (w : World) (e : Ending) (w' : World) : Prop := ∃ (t m r s v t' m' r' s' v' : Int), e = .returned (.tuple #[.agg #[.int .i64 t, .int .i64 m, .int .i64 r, .int .i64 s, .int .i64 v], .agg #[.int .i64 t', .int .i64 m', .int .i64 r', .int .i64 s', .int .i64 v']]) ∧ Below w.heap.size w w'
theorem two_states (w : World) : ∃ W, (w.alloc (.cells #[.int .i64 0, .int .i64 0, .int .i64 0, .int .i64 0, .int .i64 0] 45)).alloc (.cells #[.int .i64 0, .int .i64 0, .int .i64 0, .int .i64 0, .int .i64 0] 45) = W ∧ Below w.heap.size w W ∧ R5 [w.heap.size, w.heap.size + 1] W ∧ w.heap.size + 2 = W.heap.size := by
  obtain ⟨x1, x2⟩ := alloc2 w (.cells #[.int .i64 0, .int .i64 0, .int .i64 0, .int .i64 0, .int .i64 0] 45) (.cells #[.int .i64 0, .int .i64 0, .int .i64 0, .int .i64 0, .int .i64 0] 45)
  refine ⟨_, rfl, ((Below.refl _ _).alloc (Nat.le_refl _) _).alloc (by simp) _, fun q hq => ?_, by simp⟩
  simp only [List.mem_cons, List.not_mem_nil, or_false] at hq
  rcases hq with rfl | rfl
  · exact ⟨_, _, _, _, _, x1⟩
  · exact ⟨_, _, _, _, _, x2⟩
set_option maxHeartbeats 4000000 in
theorem s_DrawStateDistance (A : Option Addr) (n c : Nat) (bs : List Int) (B : Nat) (w : World) (h : BytesAt w B A n c bs) (hB : B ≤ w.heap.size) :
    Calls Try.prog 111 #[.slice A n c] w (DrewSS w) := by
  obtain ⟨W0, hW0, bA, R0, z0⟩ := two_states w
  have HW0 := Lib.hid hW0
  have Hz := Lib.hid z0
  have z0' : w.heap.size + 2 ≤ W0.heap.size := by omega
  clear hW0 z0
  go_enter Try.func111, Try.ntmps111
  go_wp2_with fail
  rw [HW0.out]
  generalize hg0 : w.heap.size = g0 at *
  have g00 : w.heap.size ≤ g0 := by omega
  have g01 : g0 ≤ w.heap.size := by omega
  have hB0 : B ≤ g0 := by omega
  clear hg0 HW0 Hz
  generalize hg1 : g0 + 1 = g1 at *
  have g10 : g0 < g1 := by omega
  have g11 : g1 < W0.heap.size := by omega
  clear hg1
  refine (s_l01From _ _ _ _ B _ (h.below' hB0 bA) (by omega)).mono ?_
  rintro e w1 ⟨g, rfl, S1, hg, hb⟩
  have D1 : DM w B g [g0, g1] w1 := ⟨S1, (bA.trans (hb.mono (by omega))).mono g00, R0.next hb, fun q hq => by
    simp only [List.mem_cons, List.not_mem_nil, or_false] at hq
    rcases hq with rfl | rfl
    · exact ⟨by omega, by omega⟩
    · exact ⟨by omega, by omega⟩, by omega, by omega⟩
  have gg1 : g0 ≠ g := by omega
  have gg2 : g1 ≠ g := by omega
  clear h bA R0 S1 hb hB hB0 g11 z0'
  go_wp2_with fail
  refine (s_l04DrawAny g B _ D1.src).mono ?_
  rintro e w2 ⟨t, m, r, s, v, rfl, S2, gw2⟩
  have D2 := (D1.draw S2 gw2).push t m r s v
  have g5 : g1 < w2.heap.size := (D1.draw S2 gw2).r5.lt (by simp)
  clear D1 S2 gw2
  go_wp2_with fail
  generalize w2.alloc _ = W2 at D2 ⊢
  generalize w2.heap.size = b5 at D2 g5 ⊢
  refine (s_l01Next g B 2 _ D2.src).mono ?_
  rintro e w3 ⟨q, rfl, _, _, S3, gw3⟩
  have D3 := D2.draw S3 gw3
  clear D2 S3 gw3
  obtain ⟨t3, m3, r3, s3, v3, R⟩ := D3.r5 b5 (by simp)
  cases hq : (q == 0)
  · obtain ⟨c0, c1, c2, c3, c4⟩ := desc_cells R
    have D4 := D3.push t3 m3 r3 s3 v3
    have g6 : b5 < w3.heap.size := D3.r5.lt (by simp)
    clear D3
    go_upto_region 6 with fail
    generalize w3.alloc _ = W4 at D4 ⊢
    generalize w3.heap.size = b6 at D4 g6 ⊢
    clear R c0 c1 c2 c3 c4
    obtain ⟨t4, m4, r4, s4, v4, R⟩ := D4.r5 b6 (by simp)
    obtain ⟨c0, c1, c2, c3, c4⟩ := desc_cells R
    have k4 := frozen_of_row _ _ 4 _ _ R
    go_cut [] from 18 to 23 (fun wx => DM w B g [b6, b5, g0, g1] wx)
    case first =>
      go_region_with (first
        | (go_at_call 99; refine (s_l01Next g B 16 _ (DM.src (DM.drew D4))).mono ?_; rintro e w5 ⟨y, rfl, _, _, S5, gw5⟩; have D5 := (DM.drew D4).draw S5 gw5; have R5 := zkeep (show W4.drew.heap[b6]? = _ from R) gw5 (fun e => (D4.ge b6 (by simp)).2 e.symm); obtain ⟨c0, c1, c2, c3, c4⟩ := desc_cells R5; have k4 := frozen_of_row _ _ 4 _ _ R5))
      all_goals (try go_wp2_with fail)
      all_goals go_meet
      all_goals (case rel => exact D5.set (q := b6) (i := 4) (by simp) (by decide) _)
    clear R c0 c1 c2 c3 c4 k4 D4
    have DA := hcut
    clear hcut
    go_upto_region 7 with fail
    obtain ⟨t5, m5, r5, s5, v5, R⟩ := DA.r5 b6 (by simp)
    obtain ⟨c0, c1, c2, c3, c4⟩ := desc_cells R
    have k0 := frozen_of_row _ _ 0 _ _ R
    go_cut [] from 24 to 30 (fun wx => DM w B g [b6, b5, g0, g1] wx)
    case first =>
      go_region_with (first
        | (go_at_call 99; refine (s_l01Next g B 3 _ (DM.src (DM.drew DA))).mono ?_; rintro e w5 ⟨y, rfl, _, _, S5, gw5⟩; have D5 := (DM.drew DA).draw S5 gw5; have R5 := zkeep (show wc.drew.heap[b6]? = _ from R) gw5 (fun e => (DA.ge b6 (by simp)).2 e.symm); obtain ⟨c0, c1, c2, c3, c4⟩ := desc_cells R5; have k0 := frozen_of_row _ _ 0 _ _ R5))
      all_goals (try go_wp2_with fail)
      all_goals go_meet
      all_goals (case rel => exact D5.set (q := b6) (i := 0) (by simp) (by decide) _)
    clear R c0 c1 c2 c3 c4 k0 DA
    go_upto_region 8 with fail
    have D6 := hcut
    clear hcut
    obtain ⟨t7, m7, r7, s7, v7, R7⟩ := D6.r5 b5 (by simp)
    obtain ⟨b0, b1, b2, b3, b4⟩ := desc_cells R7
    obtain ⟨t8, m8, r8, s8, v8, R8⟩ := D6.r5 b6 (by simp)
    obtain ⟨c0, c1, c2, c3, c4⟩ := desc_cells R8
    obtain ⟨t0, m0, r0, s0, v0, R0⟩ := D6.r5 g0 (by simp)
    obtain ⟨d0, d1, d2, d3, d4⟩ := desc_cells R0
    have k0 := frozen_of_row _ _ 0 _ _ R0
    have k1 := frozen_of_row _ _ 1 _ _ R0
    have k2 := frozen_of_row _ _ 2 _ _ R0
    have k3 := frozen_of_row _ _ 3 _ _ R0
    have k4 := frozen_of_row _ _ 4 _ _ R0
    obtain ⟨t1, m1, r1, s1, v1, R1⟩ := D6.r5 g1 (by simp)
    obtain ⟨e0, e1, e2, e3, e4⟩ := desc_cells R1
    have l0 := frozen_of_row _ _ 0 _ _ R1
    have l1 := frozen_of_row _ _ 1 _ _ R1
    have l2 := frozen_of_row _ _ 2 _ _ R1
    have l3 := frozen_of_row _ _ 3 _ _ R1
    have l4 := frozen_of_row _ _ 4 _ _ R1
    have n1 : g0 ≠ g1 := (by omega)
    have n2 : g1 ≠ g0 := (by omega)
    have n3 : g0 ≠ b5 := (by omega)
    have n4 : b5 ≠ g0 := (by omega)
    have n5 : g1 ≠ b5 := (by omega)
    have n6 : b5 ≠ g1 := (by omega)
    have n7 : g0 ≠ b6 := (by omega)
    have n8 : b6 ≠ g0 := (by omega)
    have n9 : g1 ≠ b6 := (by omega)
    have n10 : b6 ≠ g1 := (by omega)
    have XA := Lib.hid ((D6.five (q := g0) (by simp) t7 m7 r7 s7 v7).five (q := g1) (by simp) t8 m8 r8 s8 v8)
    clear D6
    go_region_held3 (fun w' => w'.cell? ⟨b5, 0, none⟩ = some (.int .i64 t7) ∧ w'.cell? ⟨b5, 1, none⟩ = some (.int .i64 m7) ∧ w'.cell? ⟨b5, 2, none⟩ = some (.int .i64 r7) ∧ w'.cell? ⟨b5, 3, none⟩ = some (.int .i64 s7) ∧ w'.cell? ⟨b5, 4, none⟩ = some (.int .i64 v7) ∧ w'.cell? ⟨b6, 0, none⟩ = some (.int .i64 t8) ∧ w'.cell? ⟨b6, 1, none⟩ = some (.int .i64 m8) ∧ w'.cell? ⟨b6, 2, none⟩ = some (.int .i64 r8) ∧ w'.cell? ⟨b6, 3, none⟩ = some (.int .i64 s8) ∧ w'.cell? ⟨b6, 4, none⟩ = some (.int .i64 v8)) (go_keep) (fail)
    all_goals go_wp2
    all_goals (have X := XA.out; clear XA b0 b1 b2 b3 b4 c0 c1 c2 c3 c4 d0 d1 d2 d3 d4 e0 e1 e2 e3 e4 k0 k1 k2 k3 k4 l0 l1 l2 l3 l4 R0 R1 R7 R8; revert X; generalize World.setCell _ _ _ = WF; intro X; obtain ⟨t0, m0, r0, s0, v0, R0⟩ := X.r5 g0 (by simp); obtain ⟨t1, m1, r1, s1, v1, R1⟩ := X.r5 g1 (by simp); obtain ⟨b0, b1, b2, b3, b4⟩ := desc_cells R0; obtain ⟨c0, c1, c2, c3, c4⟩ := desc_cells R1; exact bodyPost_ret (v := .tuple #[.agg #[.int .i64 t0, .int .i64 m0, .int .i64 r0, .int .i64 s0, .int .i64 v0], .agg #[.int .i64 t1, .int .i64 m1, .int .i64 r1, .int .i64 s1, .int .i64 v1]]) (by simp [results, Try.results111, go_sem, b0, b1, b2, b3, b4, c0, c1, c2, c3, c4]) rfl ⟨_, _, _, _, _, _, _, _, _, _, rfl, X.bel.drew⟩)
  · obtain ⟨b0, b1, b2, b3, b4⟩ := desc_cells R
    have n1 : g0 ≠ g1 := (by omega)
    have n2 : g1 ≠ g0 := (by omega)
    have n3 : g0 ≠ b5 := (by omega)
    have n4 : b5 ≠ g0 := (by omega)
    have n5 : g1 ≠ b5 := (by omega)
    have n6 : b5 ≠ g1 := (by omega)
    have n7 : g0 ≠ g := (D3.ge g0 (by simp)).2
    have n8 : g1 ≠ g := (D3.ge g1 (by simp)).2
    have n9 : b5 ≠ g := (D3.ge b5 (by simp)).2
    obtain ⟨t0, m0, r0, s0, v0, R0⟩ := D3.r5 g0 (by simp)
    obtain ⟨t1, m1, r1, s1, v1, R1⟩ := D3.r5 g1 (by simp)
    obtain ⟨d0, d1, d2, d3, d4⟩ := desc_cells R0
    obtain ⟨e0, e1, e2, e3, e4⟩ := desc_cells R1
    have k0 := frozen_of_row _ _ 0 _ _ R0
    have k1 := frozen_of_row _ _ 1 _ _ R0
    have k2 := frozen_of_row _ _ 2 _ _ R0
    have k3 := frozen_of_row _ _ 3 _ _ R0
    have k4 := frozen_of_row _ _ 4 _ _ R0
    have l0 := frozen_of_row _ _ 0 _ _ R1
    have l1 := frozen_of_row _ _ 1 _ _ R1
    have l2 := frozen_of_row _ _ 2 _ _ R1
    have l3 := frozen_of_row _ _ 3 _ _ R1
    have l4 := frozen_of_row _ _ 4 _ _ R1
    have XA := Lib.hid (D3.five (q := g0) (by simp) t3 m3 r3 s3 v3)
    have XB := Lib.hid ((five_other (g := g0) (h := b5) (v0 := .int .i64 t3) (v1 := .int .i64 m3) (v2 := .int .i64 r3) (v3 := .int .i64 s3) (v4 := .int .i64 v3) n4).trans R)
    have D3' := Lib.hid D3
    have RR := Lib.hid R
    clear D3 R R0 R1
    go_upto_region 4 with fail
    go_region_held3 (fun w' => w'.cell? ⟨b5, 0, none⟩ = some (.int .i64 t3) ∧ w'.cell? ⟨b5, 1, none⟩ = some (.int .i64 m3) ∧ w'.cell? ⟨b5, 2, none⟩ = some (.int .i64 r3) ∧ w'.cell? ⟨b5, 3, none⟩ = some (.int .i64 s3) ∧ w'.cell? ⟨b5, 4, none⟩ = some (.int .i64 v3)) (go_keep) (first
      | (go_at_call 110; (with_reducible refine (s_l04DrawAny g B _ (DM.src (DM.drew XA.out))).mono ?_); rintro e w5 ⟨t5, m5, r5, s5, v5, rfl, S5, gw5⟩; have D5 := (DM.drew XA.out).draw S5 gw5; obtain ⟨b0, b1, b2, b3, b4⟩ := desc_cells (zkeep_d XB.out gw5 (fun e => n9 e.symm)); obtain ⟨t0, m0, r0, s0, v0, R0⟩ := D5.r5 g0 (by simp); obtain ⟨t1, m1, r1, s1, v1, R1⟩ := D5.r5 g1 (by simp); obtain ⟨d0, d1, d2, d3, d4⟩ := desc_cells R0; obtain ⟨e0, e1, e2, e3, e4⟩ := desc_cells R1; have k0 := frozen_of_row _ _ 0 _ _ R0; have l0 := frozen_of_row _ _ 0 _ _ R1; have k1 := frozen_of_row _ _ 1 _ _ R0; have l1 := frozen_of_row _ _ 1 _ _ R1; have k2 := frozen_of_row _ _ 2 _ _ R0; have l2 := frozen_of_row _ _ 2 _ _ R1; have k3 := frozen_of_row _ _ 3 _ _ R0; have l3 := frozen_of_row _ _ 3 _ _ R1; have k4 := frozen_of_row _ _ 4 _ _ R0; have l4 := frozen_of_row _ _ 4 _ _ R1; clear gw5)
      | (go_at_call 110; (with_reducible refine (s_l04DrawAny g B _ (DM.src (DM.drew D3'.out))).mono ?_); rintro e w5 ⟨t5, m5, r5, s5, v5, rfl, S5, gw5⟩; have D5 := (DM.drew D3'.out).draw S5 gw5; obtain ⟨b0, b1, b2, b3, b4⟩ := desc_cells (zkeep_d RR.out gw5 (fun e => n9 e.symm)); obtain ⟨t0, m0, r0, s0, v0, R0⟩ := D5.r5 g0 (by simp); obtain ⟨t1, m1, r1, s1, v1, R1⟩ := D5.r5 g1 (by simp); obtain ⟨d0, d1, d2, d3, d4⟩ := desc_cells R0; obtain ⟨e0, e1, e2, e3, e4⟩ := desc_cells R1; have k0 := frozen_of_row _ _ 0 _ _ R0; have l0 := frozen_of_row _ _ 0 _ _ R1; have k1 := frozen_of_row _ _ 1 _ _ R0; have l1 := frozen_of_row _ _ 1 _ _ R1; have k2 := frozen_of_row _ _ 2 _ _ R0; have l2 := frozen_of_row _ _ 2 _ _ R1; have k3 := frozen_of_row _ _ 3 _ _ R0; have l3 := frozen_of_row _ _ 3 _ _ R1; have k4 := frozen_of_row _ _ 4 _ _ R0; have l4 := frozen_of_row _ _ 4 _ _ R1; clear gw5))
    all_goals (try go_wp2)
    all_goals (generalize hWF : World.setCell _ _ _ = WF; have X : DM w B g [b5, g0, g1] WF := (by rw [← hWF]; first | exact (D5.five (q := g0) (by simp) t3 m3 r3 s3 v3).five (q := g1) (by simp) t5 m5 r5 s5 v5 | exact (D5.five (q := g1) (by simp) t5 m5 r5 s5 v5).five (q := g0) (by simp) t3 m3 r3 s3 v3 | exact D5.five (q := g1) (by simp) t5 m5 r5 s5 v5); clear hWF D5 XA XB D3' RR b0 b1 b2 b3 b4 d0 d1 d2 d3 d4 e0 e1 e2 e3 e4 k0 k1 k2 k3 k4 l0 l1 l2 l3 l4; obtain ⟨t0, m0, r0, s0, v0, R0⟩ := X.r5 g0 (by simp); obtain ⟨t1, m1, r1, s1, v1, R1⟩ := X.r5 g1 (by simp); obtain ⟨b0, b1, b2, b3, b4⟩ := desc_cells R0; obtain ⟨c0, c1, c2, c3, c4⟩ := desc_cells R1; exact bodyPost_ret (v := .tuple #[.agg #[.int .i64 t0, .int .i64 m0, .int .i64 r0, .int .i64 s0, .int .i64 v0], .agg #[.int .i64 t1, .int .i64 m1, .int .i64 r1, .int .i64 s1, .int .i64 v1]]) (by simp [results, Try.results111, go_sem, b0, b1, b2, b3, b4, c0, c1, c2, c3, c4]) rfl ⟨_, _, _, _, _, _, _, _, _, _, rfl, X.bel⟩)
end Go.Proofs.Ytecelofoffdjlaa

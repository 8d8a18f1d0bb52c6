/- The draw of MissedErrors' arguments. -/
import Derived.Test.YtecelofoffdjlaaDrawM
import Derived.Test.YtecelofoffdjlaaRinv
import Derived.Test.YtecelofoffdjlaaBits2
import Derived.Test.YtecelofoffdjlaaBits3
import Derived.Test.YtecelofoffdjlaaRws
namespace Go.Proofs.Ytecelofoffdjlaa
open Go.RowKit
set_option linter.unusedSimpArgs false
set_option linter.unusedVariables false
def DrewME (w : World) (e : Ending) (w' : World) : Prop := ∃ (k t m r s v t' m' r' s' v' : Int) (A : Option Addr) (n c : Nat) (xs : List Int),
  e = .returned (.tuple #[.int .i64 k, .agg #[.int .i64 t, .int .i64 m, .int .i64 r, .int .i64 s, .int .i64 v], .agg #[.int .i64 t', .int .i64 m', .int .i64 r', .int .i64 s', .int .i64 v'], .slice A n c]) ∧ IntsAt w' w'.heap.size A n c xs ∧ n ≤ 900 ∧ Below w.heap.size w w'
section
variable {w W W' : World} {B g q base : Nat} {gs : List Nat} {v : Value} {n : Nat}
theorem DM.app {row : Option Nat} (h : DM w B g gs W) (gg : W.grownBy W' row) (hr : ∀ k, row = some k → base ≤ k) (hgs : ∀ q ∈ gs, q < base) (hg : g < base) (hw : w.heap.size ≤ base) : DM w B g gs W' :=
  ⟨h.src.kept gg (fun e => by have := hr g e; omega) (fun k hk => by have := hr k hk; have := h.hB; omega),
   h.bel.trans (grown_below gg h.bel.size (fun k hk => by have := hr k hk; omega)), fun q hq => by
    obtain ⟨t, m, r, s, v, R⟩ := h.r5 q hq
    exact ⟨t, m, r, s, v, (gg.block q (Below.ltK R) (fun e => by have := hr q e.symm; have := hgs q hq; omega)).trans R⟩, h.ge, h.hB, h.hg⟩
end
/-- The rows that region 13 has made and not yet used up. -/
def Fl (l : Nat → Bool) (v54 v55 v58 v59 v60 v61 v62 : Value) : Nat → Option (Value × Nat)
  | 0 => if l 0 = true ∧ l 6 = false then some (v54, 8) else none
  | 1 => if l 1 = true ∧ l 5 = false then some (v55, 8) else none
  | 2 => if l 4 = true then some (v58, 24) else none
  | 3 => if l 5 = true then some (v59, 32) else none
  | 4 => if l 6 = true ∧ l 8 = false then some (v60, 40) else none
  | 5 => if l 7 = true then some (v61, 8) else none
  | 6 => if l 8 = true then some (v62, 48) else none
  | _ => none
set_option maxHeartbeats 4000000 in
theorem s_DrawMissedErrors (A : Option Addr) (n c : Nat) (bs : List Int) (B : Nat) (w : World) (h : BytesAt w B A n c bs) (hB : B ≤ w.heap.size) :
    Calls Try.prog 62 #[.slice A n c] w (DrewME w) := by
  obtain ⟨W0, hW0, bA, R0, z0⟩ := two_states w
  have HW0 := Lib.hid hW0
  have Hz := Lib.hid z0
  have z0' : w.heap.size + 2 ≤ W0.heap.size := by omega
  clear hW0 z0
  go_enter Try.func62, Try.ntmps62
  go_wp2_with fail
  rw [HW0.out]
  generalize hg0 : w.heap.size = g0 at *
  have g00 : w.heap.size ≤ g0 := by omega
  have g01 : g0 ≤ w.heap.size := by omega
  have hB0 : B ≤ g0 := by omega
  clear hg0 HW0 Hz
  generalize hg1 : g0 + 1 = g1 at *
  have g10 : g0 < g1 := by omega
  have g11 : g1 < W0.heap.size := by omega
  clear hg1
  have h0 := h.below' hB0 bA
  refine (s_l01From _ _ _ _ B _ h0 (by omega)).mono ?_
  rintro e w1 ⟨g, rfl, S1, hg, hb⟩
  have D1 : DM w B g [g0, g1] w1 := ⟨S1, (bA.trans (hb.mono (by omega))).mono g00, R0.next hb, fun q hq => by
    simp only [List.mem_cons, List.not_mem_nil, or_false] at hq
    rcases hq with rfl | rfl
    · exact ⟨by omega, by omega⟩
    · exact ⟨by omega, by omega⟩, by omega, by omega⟩
  have gg1 : g0 ≠ g := by omega
  have gg2 : g1 ≠ g := by omega
  clear h0 bA R0 S1 hb g11 z0'
  go_wp2_with fail
  refine (s_l01Next g B 5 _ D1.src).mono ?_
  rintro e w2 ⟨r1, rfl, r10, r11, S2, gw2⟩
  have D2 := D1.draw S2 gw2
  clear S2 D1
  go_wp2_with fail
  refine (s_l01Next g B 16 _ D2.src).mono ?_
  rintro e w3 ⟨r2, rfl, r20, r21, S3, gw3⟩
  have D3 := D2.draw S3 gw3
  clear S3 D2
  go_wp2_with fail
  generalize r1 - r2 / 15 = kk
  refine (s_DrawStateDistance A n c bs B _ (h.below' (by omega) D3.bel) (by have := D3.bel.size; omega)).mono ?_
  rintro e w4 ⟨t, m, r, s, v, t', m', r', s', v', rfl, b4⟩
  have D4 := ((D3.next b4).push t m r s v).push t' m' r' s' v'
  have y4 : g1 < w4.heap.size := (D3.next b4).r5.lt (by simp)
  simp only [World.size_alloc] at D4
  clear D3 h b4
  go_wp2_with fail
  generalize (w4.alloc _).alloc _ = W4 at *
  generalize hb8 : w4.heap.size = b8 at *
  clear hb8
  generalize hb9 : b8 + 1 = b9 at *
  have y9 : b8 < b9 := by omega
  clear hb9
  refine (s_l01Next g B 6 _ D4.src).mono ?_
  rintro e w5 ⟨r3, rfl, r30, r31, S5, gw5⟩
  have D5 := D4.draw S5 gw5
  clear S5 D4
  obtain ⟨p, hp, hp2, hpe⟩ : ∃ p : Nat, p ≤ 80 ∧ 32 ≤ p ∧ 32 + 8 * r3 = (p : Int) := ⟨(32 + 8 * r3).toNat, by omega, by omega, by omega⟩
  have hmk := make_run p (by omega)
  have D6 := D5.alloc (.cells ((List.replicate p 0).map (Value.int .i64)).toArray 2)
  have Q6 : Row w5.heap.size (.slice (some ⟨w5.heap.size, 0, none⟩) p p) p (w5.alloc (.cells ((List.replicate p 0).map (Value.int .i64)).toArray 2)) := ⟨List.replicate p 0, by simp, own_of_row p (by omega) (Nat.le_refl _) (heap_alloc_new w5 _)⟩
  have yb : b9 < w5.heap.size := D5.r5.lt (by simp)
  have yg : g < w5.heap.size := D5.src.lt
  obtain ⟨O, hO⟩ : ∃ O, O = Obj.cells ((List.replicate p 0).map (Value.int .i64)).toArray 2 := ⟨_, rfl⟩
  rw [← hO] at hmk D6 Q6
  clear hO D5
  have Hpe := Lib.hid hpe
  clear hpe
  go_upto_region 5 with (rw [Hpe.out])
  clear hmk
  generalize World.alloc _ _ = W6 at *
  generalize w5.heap.size = ob at *
  have ygs : ∀ q ∈ [b9, b8, g0, g1], q < ob := fun q hq => by
    simp only [List.mem_cons, List.not_mem_nil, or_false] at hq
    rcases hq with rfl | rfl | rfl | rfl <;> omega
  have Hgs := Lib.hid ygs
  clear ygs
  have hgo : w.heap.size ≤ ob := by omega
  go_wp2_with fail
  refine (s_l01Next g B 4 _ D6.src).mono ?_
  rintro e w7 ⟨r4, rfl, r40, r41, S7, gw7⟩
  have D7 := D6.draw S7 gw7
  have Q7 := Q6.draw yg gw7
  clear S7 D6 Q6
  obtain ⟨k4, hk4, rfl⟩ : ∃ k : Nat, k ≤ 4 ∧ r4 = (k : Int) := ⟨r4.toNat, by omega, by omega⟩
  go_wp2_with fail
  go_loopw [11] (fun i wr => ∃ k : Nat, k ≤ 4 ∧ i = .int .i64 k ∧ DM w B g [b9, b8, g0, g1] wr ∧ Row ob (.slice (some ⟨ob, 0, none⟩) p p) p wr) (fun i _ => (intOf i).toNat)
  case atStart => exact ⟨k4, hk4, rfl, D7, Q7⟩
  case round =>
    clear D7 Q7
    obtain ⟨k, hk, rfl, D8, Q8⟩ := hrel
    by_cases h0 : 0 < k
    · have hp3 : (p : Int) ≤ 80 := by omega
      have hp4 : (32 : Int) ≤ p := by omega
      go_wp2_with fail
      refine (s_l01Next g B p _ D8.src).mono ?_
      rintro e w9 ⟨x, rfl, x0, x1, S9, gw9⟩
      obtain ⟨j, rfl⟩ := Int.eq_ofNat_of_zero_le x0
      have hj : j < p := by omega
      have D9 := D8.draw S9 gw9
      obtain ⟨xs, hx, o9⟩ := Q8.draw yg gw9
      unfold IOwn at o9
      rw [hx] at o9
      have p1 : w9.cell? ⟨ob, j, none⟩ = some (.int .i64 (xs.getD j 0)) := by
        rw [o9.cellAt j (by omega), List.getElem?_map, List.getElem?_eq_getElem (by omega)]
        simp [List.getD_eq_getElem?_getD, List.getElem?_eq_getElem (show j < xs.length by omega)]
      have pf : w9.frozen? ⟨ob, j, none⟩ = false := o9.frozenAt j
      obtain ⟨hnew, _⟩ := o9.stored j (.int .i64 1)
      rw [← List.map_set] at hnew
      have QN : Row ob (.slice (some ⟨ob, 0, none⟩) p p) p (w9.setCell ⟨ob, j, none⟩ (.int .i64 1)) := ⟨xs.set j 1, by simp [hx], by unfold IOwn; rw [List.length_set, hx]; exact hnew⟩
      have DN : DM w B g [b9, b8, g0, g1] (w9.setCell ⟨ob, j, none⟩ (.int .i64 1)) := D9.app (base := ob) (grown_set (p := ⟨ob, j, none⟩) (World.grownBy.refl w9 (some ob)) (.inl rfl) (.int .i64 1)) (fun k hk => by injection hk with hk; omega) Hgs.out yg hgo
      have b0 : (0 : Int) ≤ (j : Int) := by omega
      have b1 : (j : Int) < (p : Int) := by omega
      clear hnew o9 D8 Q8 D9 S9 gw9 hx
      go_wp2
      go_roundw
      case rel => exact ⟨k - 1, by omega, by go_num, DN, QN⟩
      case measure => simp [intOf]; omega
    · have hp3 : (p : Int) ≤ 80 := by omega
      have hp4 : (32 : Int) ≤ p := by omega
      go_wp2_with fail
      refine (s_l01Next g B 10 _ D8.src).mono ?_
      rintro e w9 ⟨x, rfl, x0, x1, S9, gw9⟩
      have D9 := D8.draw S9 gw9
      have Q9 := Q8.draw yg gw9
      clear D8 Q8 S9
      cases q0 : (x == 0)
      · cases q1 : (x == 1)
        · go_upto_region 14 with fail
          go_wp2_with fail
          refine (s_l01Next g B 2 _ D9.src).mono ?_
          rintro e wz ⟨z, rfl, _, _, SZ, gz⟩
          have DZ := D9.draw SZ gz
          have QZ := Q9.draw yg gz
          clear D9 Q9 SZ gz
          have D9 := DZ
          have Q9 := QZ
          clear DZ QZ
          obtain ⟨t8, m8, r8, s8, v8, R8⟩ := D9.r5 b8 (by simp); obtain ⟨b0, b1, b2, b3, b4⟩ := desc_cells R8
          obtain ⟨t7, m7, r7, s7, v7, R7⟩ := D9.r5 b9 (by simp); obtain ⟨c0, c1, c2, c3, c4⟩ := desc_cells R7
          obtain ⟨t0, m0, r0, s0, v0, R0⟩ := D9.r5 g0 (by simp); obtain ⟨d0, d1, d2, d3, d4⟩ := desc_cells R0; have k0 := frozen_of_row _ _ 0 _ _ R0; have k1 := frozen_of_row _ _ 1 _ _ R0; have k2 := frozen_of_row _ _ 2 _ _ R0; have k3 := frozen_of_row _ _ 3 _ _ R0; have k_4 := frozen_of_row _ _ 4 _ _ R0
          obtain ⟨t1, m1, r1_, s1, v1, R1⟩ := D9.r5 g1 (by simp); obtain ⟨e0, e1, e2, e3, e4⟩ := desc_cells R1; have l0 := frozen_of_row _ _ 0 _ _ R1; have l1 := frozen_of_row _ _ 1 _ _ R1; have l2 := frozen_of_row _ _ 2 _ _ R1; have l3 := frozen_of_row _ _ 3 _ _ R1; have l4 := frozen_of_row _ _ 4 _ _ R1
          have n1 : g0 ≠ g1 := (by omega)
          have n2 : g1 ≠ g0 := (by omega)
          have n3 : g0 ≠ b8 := (by omega)
          have n4 : b8 ≠ g0 := (by omega)
          have n5 : g1 ≠ b8 := (by omega)
          have n6 : b8 ≠ g1 := (by omega)
          have n7 : g0 ≠ b9 := (by omega)
          have n8 : b9 ≠ g0 := (by omega)
          have n9 : g1 ≠ b9 := (by omega)
          have n10 : b9 ≠ g1 := (by omega)
          have HD := Lib.hid (And.intro D9 Q9)
          clear D9 Q9
          cases qz : (z == 0)
          · go_upto_region 16 with fail
            go_region_held3 (fun w' => w'.cell? ⟨b8, 0, none⟩ = some (.int .i64 t8) ∧ w'.cell? ⟨b8, 1, none⟩ = some (.int .i64 m8) ∧ w'.cell? ⟨b8, 2, none⟩ = some (.int .i64 r8) ∧ w'.cell? ⟨b8, 3, none⟩ = some (.int .i64 s8) ∧ w'.cell? ⟨b8, 4, none⟩ = some (.int .i64 v8) ∧ w'.cell? ⟨b9, 0, none⟩ = some (.int .i64 t7) ∧ w'.cell? ⟨b9, 1, none⟩ = some (.int .i64 m7) ∧ w'.cell? ⟨b9, 2, none⟩ = some (.int .i64 r7) ∧ w'.cell? ⟨b9, 3, none⟩ = some (.int .i64 s7) ∧ w'.cell? ⟨b9, 4, none⟩ = some (.int .i64 v7)) (go_keep) (fail)
            all_goals go_wp2
            all_goals (obtain ⟨D9, Q9⟩ := HD.out; clear HD; generalize hWF : World.setCell _ _ _ = WF; have X : DM w B g [b9, b8, g0, g1] WF ∧ Row ob (.slice (some ⟨ob, 0, none⟩) p p) (p) WF := (by rw [← hWF]; first | exact ⟨((D9.five (q := g0) (by simp) t8 m8 r8 s8 v8).five (q := g1) (by simp) t7 m7 r7 s7 v7), ((Q9.five (q := g0) (by omega) _ _ _ _ _).five (q := g1) (by omega) _ _ _ _ _)⟩ | exact ⟨((D9.five (q := g1) (by simp) t7 m7 r7 s7 v7).five (q := g0) (by simp) t8 m8 r8 s8 v8), ((Q9.five (q := g1) (by omega) _ _ _ _ _).five (q := g0) (by omega) _ _ _ _ _)⟩); clear hWF D9 Q9 b0 b1 b2 b3 b4 c0 c1 c2 c3 c4 d0 d1 d2 d3 d4 e0 e1 e2 e3 e4 k0 k1 k2 k3 k_4 l0 l1 l2 l3 l4 R7 R8 R0 R1; obtain ⟨X, Y⟩ := X; obtain ⟨t0, m0, r0, s0, v0, R0⟩ := X.r5 g0 (by simp); obtain ⟨t1, m1, r1_, s1, v1, R1⟩ := X.r5 g1 (by simp); obtain ⟨b0, b1, b2, b3, b4⟩ := desc_cells R0; obtain ⟨c0, c1, c2, c3, c4⟩ := desc_cells R1; obtain ⟨xs, hx, o⟩ := Y; obtain ⟨A10, c10, e10, I10⟩ := o.ints (by omega); rw [hx] at e10 I10; exact bodyPost_ret (v := .tuple #[.int .i64 kk, .agg #[.int .i64 t0, .int .i64 m0, .int .i64 r0, .int .i64 s0, .int .i64 v0], .agg #[.int .i64 t1, .int .i64 m1, .int .i64 r1_, .int .i64 s1, .int .i64 v1], .slice (some ⟨ob, 0, none⟩) p p]) (by simp [results, Try.results62, go_sem, b0, b1, b2, b3, b4, c0, c1, c2, c3, c4]) rfl ⟨_, _, _, _, _, _, _, _, _, _, _, _, _, _, xs, by rw [e10], I10, by omega, by first | exact X.bel | exact X.bel.drew⟩)
          · go_upto_region 15 with fail
            go_region_held3 (fun w' => w'.cell? ⟨b8, 0, none⟩ = some (.int .i64 t8) ∧ w'.cell? ⟨b8, 1, none⟩ = some (.int .i64 m8) ∧ w'.cell? ⟨b8, 2, none⟩ = some (.int .i64 r8) ∧ w'.cell? ⟨b8, 3, none⟩ = some (.int .i64 s8) ∧ w'.cell? ⟨b8, 4, none⟩ = some (.int .i64 v8)) (go_keep) (fail)
            all_goals go_wp2
            all_goals (obtain ⟨D9, Q9⟩ := HD.out; clear HD; generalize hWF : World.setCell _ _ _ = WF; have X : DM w B g [b9, b8, g0, g1] WF ∧ Row ob (.slice (some ⟨ob, 0, none⟩) p p) (p) WF := (by rw [← hWF]; first | exact ⟨((D9.five (q := g0) (by simp) t8 m8 r8 s8 v8).five (q := g1) (by simp) t8 m8 r8 s8 v8), ((Q9.five (q := g0) (by omega) _ _ _ _ _).five (q := g1) (by omega) _ _ _ _ _)⟩ | exact ⟨((D9.five (q := g1) (by simp) t8 m8 r8 s8 v8).five (q := g0) (by simp) t8 m8 r8 s8 v8), ((Q9.five (q := g1) (by omega) _ _ _ _ _).five (q := g0) (by omega) _ _ _ _ _)⟩); clear hWF D9 Q9 b0 b1 b2 b3 b4 c0 c1 c2 c3 c4 d0 d1 d2 d3 d4 e0 e1 e2 e3 e4 k0 k1 k2 k3 k_4 l0 l1 l2 l3 l4 R7 R8 R0 R1; obtain ⟨X, Y⟩ := X; obtain ⟨t0, m0, r0, s0, v0, R0⟩ := X.r5 g0 (by simp); obtain ⟨t1, m1, r1_, s1, v1, R1⟩ := X.r5 g1 (by simp); obtain ⟨b0, b1, b2, b3, b4⟩ := desc_cells R0; obtain ⟨c0, c1, c2, c3, c4⟩ := desc_cells R1; obtain ⟨xs, hx, o⟩ := Y; obtain ⟨A10, c10, e10, I10⟩ := o.ints (by omega); rw [hx] at e10 I10; exact bodyPost_ret (v := .tuple #[.int .i64 kk, .agg #[.int .i64 t0, .int .i64 m0, .int .i64 r0, .int .i64 s0, .int .i64 v0], .agg #[.int .i64 t1, .int .i64 m1, .int .i64 r1_, .int .i64 s1, .int .i64 v1], .slice (some ⟨ob, 0, none⟩) p p]) (by simp [results, Try.results62, go_sem, b0, b1, b2, b3, b4, c0, c1, c2, c3, c4]) rfl ⟨_, _, _, _, _, _, _, _, _, _, _, _, _, _, xs, by rw [e10], I10, by omega, by first | exact X.bel | exact X.bel.drew⟩)
        · go_upto_region 13 with fail
          have hmk : ∀ w : World, (Instr.makeSlice 29 (.int .i64 8) (.int .i64 8)).run Try.prog w = .ok (.slice (some ⟨w.heap.size, 0, none⟩) 8 8) (w.alloc (.cells ((List.replicate 8 (0 : Int)).map (Value.int .i64)).toArray 2)) := fun w => make_run 8 (by omega) w
          have hz9 : ob ≤ w9.drew.heap.size := by obtain ⟨xs, hx, o⟩ := Q9; exact Nat.le_of_lt (o.lt ob rfl).2
          refine wp_region_inv (by kernel_rfl) (low_of (by kernel_rfl)) (fun l a W => ∃ v10 v54 v55 v56 v57 v58 v59 v60 v61 v62 : Value, a = ⟨#[.slice A n c, undef, .int .i64 0, .pointer (some ⟨g0, 0, none⟩), .pointer (some ⟨g1, 0, none⟩), .slice none 0 0, .pointer (some ⟨g, 0, none⟩), .int .i64 kk, .pointer (some ⟨b8, 0, none⟩), .pointer (some ⟨b9, 0, none⟩), v10, .int .i64 k, .slice A n c, .pointer (some ⟨g, 0, none⟩), .pointer (some ⟨g, 0, none⟩), .int .i64 r1, .pointer (some ⟨g, 0, none⟩), .int .i64 r2, .int .i64 (r2 / 15), .int .i64 kk, .tuple #[.agg #[.int .i64 t, .int .i64 m, .int .i64 r, .int .i64 s, .int .i64 v], .agg #[.int .i64 t', .int .i64 m', .int .i64 r', .int .i64 s', .int .i64 v']], .slice A n c, .tuple #[.agg #[.int .i64 t, .int .i64 m, .int .i64 r, .int .i64 s, .int .i64 v], .agg #[.int .i64 t', .int .i64 m', .int .i64 r', .int .i64 s', .int .i64 v']], .agg #[.int .i64 t, .int .i64 m, .int .i64 r, .int .i64 s, .int .i64 v], .agg #[.int .i64 t', .int .i64 m', .int .i64 r', .int .i64 s', .int .i64 v'], .pointer (some ⟨g, 0, none⟩), .int .i64 r3, .int .i64 (8 * r3), .int .i64 p, .slice (some ⟨ob, 0, none⟩) p p, .pointer (some ⟨g, 0, none⟩), .int .i64 k4, .int .i64 k, .bool false, u34, u35, u36, u37, u38, u39, u40, u41, .pointer (some ⟨g, 0, none⟩), .int .i64 x, .bool false, .bool false, undef, undef, undef, undef, undef, undef, .bool true, .bool true, v54, v55, v56, v57, v58, v59, v60, v61, v62, undef, undef, undef, undef, undef, undef, undef, undef, undef, undef, undef], []⟩ ∧ DM w B g [b9, b8, g0, g1] W ∧ RWs ob (Fl l v54 v55 v58 v59 v60 v61 v62) W ∧ (l 2 = true → v56 = .agg #[.int .i64 24, .int .i64 6122955]) ∧ (l 3 = true → v57 = .int .i64 6122955) ∧ (l 9 = true → l 8 = true ∧ v10 = v62) ∧ ob ≤ W.heap.size) ⟨_, undef, undef, undef, undef, undef, undef, undef, undef, undef, rfl, D9.drew, ⟨fun i p hp => by rcases i with _ | _ | _ | _ | _ | _ | _ | i <;> simp [Fl] at hp, fun i p hp => by rcases i with _ | _ | _ | _ | _ | _ | _ | i <;> simp [Fl] at hp, fun i j p q _ hp => by rcases i with _ | _ | _ | _ | _ | _ | _ | i <;> simp [Fl] at hp⟩, by simp, by simp, by simp, hz9⟩ ?_ ?_
          · clear D9 Q9
            rintro l i o ho hf he a W ⟨v10, v54, v55, v56, v57, v58, v59, v60, v61, v62, rfl, hDM, hR, h56, h57, h10, hz⟩ K hK
            have hi : i < 10 := (Array.getElem?_eq_some_iff.1 ho).1
            obtain rfl | rfl | rfl | rfl | rfl | rfl | rfl | rfl | rfl | rfl : i = 0 ∨ i = 1 ∨ i = 2 ∨ i = 3 ∨ i = 4 ∨ i = 5 ∨ i = 6 ∨ i = 7 ∨ i = 8 ∨ i = 9 := by omega
            all_goals obtain rfl := Option.some.inj (show some _ = some o from ho)
            all_goals clear ho hi
            · -- operation 0: a new slice
              have hN : RWs ob (Fl (fun j => if j = 0 then true else l j) (.slice (some ⟨W.heap.size, 0, none⟩) 8 8) v55 v58 v59 v60 v61 v62) (W.alloc (.cells ((List.replicate 8 (0 : Int)).map (Value.int .i64)).toArray 2)) := hR.push (i0 := 0) (v := .slice (some ⟨W.heap.size, 0, none⟩) 8 8) (xs := List.replicate 8 0) ((Below.refl _ _).alloc (Nat.le_refl _) _) (own_of_row 8 (by omega) (Nat.le_refl _) (heap_alloc_new W _)) (by simp) hz (by intro q hq; simp [Fl] at hq; simp_all) (by intro j hj q hq; rcases j with _ | _ | _ | _ | _ | _ | _ | j <;> simp_all [Fl])
              have hD := hDM.alloc (.cells ((List.replicate 8 (0 : Int)).map (Value.int .i64)).toArray 2)
              have hz' : ob ≤ (W.alloc (.cells ((List.replicate 8 (0 : Int)).map (Value.int .i64)).toArray 2)).heap.size := by rw [World.size_alloc]; omega
              go_simp
              exact hK _ _ ⟨v10, _, v55, v56, v57, v58, v59, v60, v61, v62, by first | rfl | simp, hD, hN, (by intro hh; first | exact h56 (by simpa using hh) | (have := h56 (by simpa using hh); exact ⟨by simp [this.1], this.2⟩)), (by intro hh; first | exact h57 (by simpa using hh) | (have := h57 (by simpa using hh); exact ⟨by simp [this.1], this.2⟩)), (by intro hh; first | exact h10 (by simpa using hh) | (have := h10 (by simpa using hh); exact ⟨by simp [this.1], this.2⟩)), hz'⟩
            · -- operation 1: a new slice
              have hN : RWs ob (Fl (fun j => if j = 1 then true else l j) v54 (.slice (some ⟨W.heap.size, 0, none⟩) 8 8) v58 v59 v60 v61 v62) (W.alloc (.cells #[.int .i64 0, .int .i64 0, .int .i64 0, .int .i64 0, .int .i64 0, .int .i64 0, .int .i64 0, .int .i64 1] 2)) := hR.push (i0 := 1) (v := .slice (some ⟨W.heap.size, 0, none⟩) 8 8) (xs := [0, 0, 0, 0, 0, 0, 0, 1]) ((Below.refl _ _).alloc (Nat.le_refl _) _) (lit_own W [0, 0, 0, 0, 0, 0, 0, 1] _ (Nat.le_refl _) (by simp)) (by simp) hz (by intro q hq; simp [Fl] at hq; simp_all) (by intro j hj q hq; rcases j with _ | _ | _ | _ | _ | _ | _ | j <;> simp_all [Fl])
              have hD := hDM.alloc (.cells #[.int .i64 0, .int .i64 0, .int .i64 0, .int .i64 0, .int .i64 0, .int .i64 0, .int .i64 0, .int .i64 1] 2)
              have hz' : ob ≤ (W.alloc (.cells #[.int .i64 0, .int .i64 0, .int .i64 0, .int .i64 0, .int .i64 0, .int .i64 0, .int .i64 0, .int .i64 1] 2)).heap.size := by rw [World.size_alloc]; omega
              go_simp
              exact hK _ _ ⟨v10, v54, _, v56, v57, v58, v59, v60, v61, v62, by first | rfl | simp, hD, hN, (by intro hh; first | exact h56 (by simpa using hh) | (have := h56 (by simpa using hh); exact ⟨by simp [this.1], this.2⟩)), (by intro hh; first | exact h57 (by simpa using hh) | (have := h57 (by simpa using hh); exact ⟨by simp [this.1], this.2⟩)), (by intro hh; first | exact h10 (by simpa using hh) | (have := h10 (by simpa using hh); exact ⟨by simp [this.1], this.2⟩)), hz'⟩
            · -- operation 2: the polynomial
              go_simp
              refine (s_StandardCrc _).mono ?_
              rintro e W' ⟨rfl, b⟩
              exact hK _ _ ⟨v10, v54, v55, _, v57, v58, v59, v60, v61, v62, by first | rfl | simp, hDM.next b, (hR.next b).upd (by intro j q hq; rcases j with _ | _ | _ | _ | _ | _ | _ | j <;> simp_all [Fl]), (fun _ => rfl), (by intro hh; first | exact h57 (by simpa using hh) | (have := h57 (by simpa using hh); exact ⟨by simp [this.1], this.2⟩)), (by intro hh; first | exact h10 (by simpa using hh) | (have := h10 (by simpa using hh); exact ⟨by simp [this.1], this.2⟩)), by have := b.size; omega⟩
            · -- operation 3: its number
              obtain rfl := h56 (he ⟨2, .data⟩ (by simp) rfl)
              have hfd : ∀ w : World, (Instr.field 94 (.agg #[.int .i64 24, .int .i64 6122955]) 1).run Try.prog w = .ok (.int .i64 6122955) w := fun _ => by kernel_rfl
              go_simp
              exact hK _ _ ⟨v10, v54, v55, _, _, v58, v59, v60, v61, v62, by first | rfl | simp, hDM, hR.upd (by intro j q hq; rcases j with _ | _ | _ | _ | _ | _ | _ | j <;> simp_all [Fl]), (fun _ => rfl), (fun _ => rfl), (by intro hh; first | exact h10 (by simpa using hh) | (have := h10 (by simpa using hh); exact ⟨by simp [this.1], this.2⟩)), hz⟩
            · -- operation 4: its bits
              obtain rfl := h57 (he ⟨3, .data⟩ (by simp) rfl)
              go_simp
              refine (s_l01Append 6122955 24 none 0 0 [] 0 W (IntsAt.nil _ _ _ _ (by unfold maxLen; omega)) (Nat.zero_le _) (by omega) (by omega) (by omega)).mono ?_
              rintro e W' ⟨u, rfl, o, b⟩
              have hl : ([] ++ bitsN 6122955 24).length = 24 := by simp [bitsN_len]
              have hN : RWs ob (Fl (fun j => if j = 4 then true else l j) v54 v55 u v59 v60 v61 v62) W' := hR.push (i0 := 2) b o (by omega) hz (by rw [hl]; intro q hq; simp [Fl] at hq; simp_all) (by intro j hj q hq; rcases j with _ | _ | _ | _ | _ | _ | _ | j <;> simp_all [Fl])
              exact hK _ _ ⟨v10, v54, v55, v56, _, u, v59, v60, v61, v62, by first | rfl | simp, hDM.next b, hN, (by intro hh; first | exact h56 (by simpa using hh) | (have := h56 (by simpa using hh); exact ⟨by simp [this.1], this.2⟩)), (fun _ => rfl), (by intro hh; first | exact h10 (by simpa using hh) | (have := h10 (by simpa using hh); exact ⟨by simp [this.1], this.2⟩)), by have := b.size; omega⟩
            · -- operation 5: an append
              have he1 := he ⟨1, .data⟩ (by simp) rfl
              have he4 := he ⟨4, .data⟩ (by simp) rfl
              have hd : Fl l v54 v55 v58 v59 v60 v61 v62 1 = some (v55, 8) := by simp [Fl, hf, he1, he4]
              have hs : Fl l v54 v55 v58 v59 v60 v61 v62 2 = some (v58, 24) := by simp [Fl, hf, he1, he4]
              obtain ⟨xs, hx, o⟩ := hR.own _ _ hd
              obtain ⟨ys, hy, q⟩ := hR.own _ _ hs
              simp only at hx hy o q
              obtain ⟨A', c', e', I'⟩ := q.ints (by omega)
              subst e'
              refine step_app rfl _ _ 29 rfl ob Try.underlying29 int_info _ xs rfl o _ _ _ _ ys rfl I' (by omega) hz ?_
              intro v' W' o' gg hv
              have hN : RWs ob (Fl (fun j => if j = 5 then true else l j) v54 v55 (.slice A' ys.length c') v' v60 v61 v62) W' := hR.app (i0 := 1) (i1 := 3) hd gg o' hv (by rw [List.length_append]; omega) (by rw [List.length_append, hx, hy]; intro q hq; simp [Fl] at hq; simp_all) (by intro j hj q hq; rcases j with _ | _ | _ | _ | _ | _ | _ | j <;> simp_all [Fl])
              exact hK _ _ ⟨v10, v54, v55, v56, v57, (.slice A' ys.length c'), v', v60, v61, v62, by first | rfl | simp, hDM.app gg (fun k hk => (o.lt k hk).1) Hgs.out yg hgo, hN, (by intro hh; first | exact h56 (by simpa using hh) | (have := h56 (by simpa using hh); exact ⟨by simp [this.1], this.2⟩)), (by intro hh; first | exact h57 (by simpa using hh) | (have := h57 (by simpa using hh); exact ⟨by simp [this.1], this.2⟩)), (by intro hh; first | exact h10 (by simpa using hh) | (have := h10 (by simpa using hh); exact ⟨by simp [this.1], this.2⟩)), by have := gg.size; omega⟩
            · -- operation 6: an append
              have he0 := he ⟨0, .data⟩ (by simp) rfl
              have he5 := he ⟨5, .data⟩ (by simp) rfl
              have hd : Fl l v54 v55 v58 v59 v60 v61 v62 0 = some (v54, 8) := by simp [Fl, hf, he0, he5]
              have hs : Fl l v54 v55 v58 v59 v60 v61 v62 3 = some (v59, 32) := by simp [Fl, hf, he0, he5]
              obtain ⟨xs, hx, o⟩ := hR.own _ _ hd
              obtain ⟨ys, hy, q⟩ := hR.own _ _ hs
              simp only at hx hy o q
              obtain ⟨A', c', e', I'⟩ := q.ints (by omega)
              subst e'
              refine step_app rfl _ _ 29 rfl ob Try.underlying29 int_info _ xs rfl o _ _ _ _ ys rfl I' (by omega) hz ?_
              intro v' W' o' gg hv
              have hN : RWs ob (Fl (fun j => if j = 6 then true else l j) v54 v55 v58 (.slice A' ys.length c') v' v61 v62) W' := hR.app (i0 := 0) (i1 := 4) hd gg o' hv (by rw [List.length_append]; omega) (by rw [List.length_append, hx, hy]; intro q hq; simp [Fl] at hq; simp_all) (by intro j hj q hq; rcases j with _ | _ | _ | _ | _ | _ | _ | j <;> simp_all [Fl])
              exact hK _ _ ⟨v10, v54, v55, v56, v57, v58, (.slice A' ys.length c'), v', v61, v62, by first | rfl | simp, hDM.app gg (fun k hk => (o.lt k hk).1) Hgs.out yg hgo, hN, (by intro hh; first | exact h56 (by simpa using hh) | (have := h56 (by simpa using hh); exact ⟨by simp [this.1], this.2⟩)), (by intro hh; first | exact h57 (by simpa using hh) | (have := h57 (by simpa using hh); exact ⟨by simp [this.1], this.2⟩)), (by intro hh; first | exact h10 (by simpa using hh) | (have := h10 (by simpa using hh); exact ⟨by simp [this.1], this.2⟩)), by have := gg.size; omega⟩
            · -- operation 7: a new slice
              have hN : RWs ob (Fl (fun j => if j = 7 then true else l j) v54 v55 v58 v59 v60 (.slice (some ⟨W.heap.size, 0, none⟩) 8 8) v62) (W.alloc (.cells #[.int .i64 0, .int .i64 0, .int .i64 0, .int .i64 0, .int .i64 0, .int .i64 0, .int .i64 0, .int .i64 0] 2)) := hR.push (i0 := 5) (v := .slice (some ⟨W.heap.size, 0, none⟩) 8 8) (xs := [0, 0, 0, 0, 0, 0, 0, 0]) ((Below.refl _ _).alloc (Nat.le_refl _) _) (lit_own W [0, 0, 0, 0, 0, 0, 0, 0] _ (Nat.le_refl _) (by simp)) (by simp) hz (by intro q hq; simp [Fl] at hq; simp_all) (by intro j hj q hq; rcases j with _ | _ | _ | _ | _ | _ | _ | j <;> simp_all [Fl])
              have hD := hDM.alloc (.cells #[.int .i64 0, .int .i64 0, .int .i64 0, .int .i64 0, .int .i64 0, .int .i64 0, .int .i64 0, .int .i64 0] 2)
              have hz' : ob ≤ (W.alloc (.cells #[.int .i64 0, .int .i64 0, .int .i64 0, .int .i64 0, .int .i64 0, .int .i64 0, .int .i64 0, .int .i64 0] 2)).heap.size := by rw [World.size_alloc]; omega
              go_simp
              exact hK _ _ ⟨v10, v54, v55, v56, v57, v58, v59, v60, _, v62, by first | rfl | simp, hD, hN, (by intro hh; first | exact h56 (by simpa using hh) | (have := h56 (by simpa using hh); exact ⟨by simp [this.1], this.2⟩)), (by intro hh; first | exact h57 (by simpa using hh) | (have := h57 (by simpa using hh); exact ⟨by simp [this.1], this.2⟩)), (by intro hh; first | exact h10 (by simpa using hh) | (have := h10 (by simpa using hh); exact ⟨by simp [this.1], this.2⟩)), hz'⟩
            · -- operation 8: an append
              have he6 := he ⟨6, .data⟩ (by simp) rfl
              have he7 := he ⟨7, .data⟩ (by simp) rfl
              have hd : Fl l v54 v55 v58 v59 v60 v61 v62 4 = some (v60, 40) := by simp [Fl, hf, he6, he7]
              have hs : Fl l v54 v55 v58 v59 v60 v61 v62 5 = some (v61, 8) := by simp [Fl, hf, he6, he7]
              obtain ⟨xs, hx, o⟩ := hR.own _ _ hd
              obtain ⟨ys, hy, q⟩ := hR.own _ _ hs
              simp only at hx hy o q
              obtain ⟨A', c', e', I'⟩ := q.ints (by omega)
              subst e'
              refine step_app rfl _ _ 29 rfl ob Try.underlying29 int_info _ xs rfl o _ _ _ _ ys rfl I' (by omega) hz ?_
              intro v' W' o' gg hv
              have hN : RWs ob (Fl (fun j => if j = 8 then true else l j) v54 v55 v58 v59 v60 (.slice A' ys.length c') v') W' := hR.app (i0 := 4) (i1 := 6) hd gg o' hv (by rw [List.length_append]; omega) (by rw [List.length_append, hx, hy]; intro q hq; simp [Fl] at hq; simp_all) (by intro j hj q hq; rcases j with _ | _ | _ | _ | _ | _ | _ | j <;> simp_all [Fl])
              exact hK _ _ ⟨v10, v54, v55, v56, v57, v58, v59, v60, (.slice A' ys.length c'), v', by first | rfl | simp, hDM.app gg (fun k hk => (o.lt k hk).1) Hgs.out yg hgo, hN, (by intro hh; first | exact h56 (by simpa using hh) | (have := h56 (by simpa using hh); exact ⟨by simp [this.1], this.2⟩)), (by intro hh; first | exact h57 (by simpa using hh) | (have := h57 (by simpa using hh); exact ⟨by simp [this.1], this.2⟩)), (by intro hh; have := (h10 (by simpa using hh)).1; rw [hf] at this; cases this), by have := gg.size; omega⟩
            · -- operation 9: the slice is laid into its place
              have he8 : l 8 = true := he ⟨8, .data⟩ (by simp) rfl
              go_simp
              exact hK _ _ ⟨v62, v54, v55, v56, v57, v58, v59, v60, v61, v62, by first | rfl | simp, hDM, hR.upd (by intro j q hq; rcases j with _ | _ | _ | _ | _ | _ | _ | j <;> simp_all [Fl]), (by intro hh; first | exact h56 (by simpa using hh) | (have := h56 (by simpa using hh); exact ⟨by simp [this.1], this.2⟩)), (by intro hh; first | exact h57 (by simpa using hh) | (have := h57 (by simpa using hh); exact ⟨by simp [this.1], this.2⟩)), (fun _ => ⟨he8, rfl⟩), hz⟩
          · rintro l a W hl ⟨v10, v54, v55, v56, v57, v58, v59, v60, v61, v62, rfl, hDM, hR, h56, h57, h10, hz⟩
            obtain rfl := (h10 (hl 9 (by decide))).2
            obtain ⟨xs, hx, o⟩ := hR.own 6 (v10, 48) (by simp [Fl, hl 8 (by decide)])
            have Q9 : Row ob v10 48 W := ⟨xs, hx, o⟩
            have D9 := hDM
            clear hDM hR h56 h57 h10 hz hl o hx hmk hz9
            go_upto_region 14 with fail
            go_wp2_with fail
            refine (s_l01Next g B 2 _ D9.src).mono ?_
            rintro e wz ⟨z, rfl, _, _, SZ, gz⟩
            have DZ := D9.draw SZ gz
            have QZ := Q9.draw yg gz
            clear D9 Q9 SZ gz
            have D9 := DZ
            have Q9 := QZ
            clear DZ QZ
            obtain ⟨t8, m8, r8, s8, v8, R8⟩ := D9.r5 b8 (by simp); obtain ⟨b0, b1, b2, b3, b4⟩ := desc_cells R8
            obtain ⟨t7, m7, r7, s7, v7, R7⟩ := D9.r5 b9 (by simp); obtain ⟨c0, c1, c2, c3, c4⟩ := desc_cells R7
            obtain ⟨t0, m0, r0, s0, v0, R0⟩ := D9.r5 g0 (by simp); obtain ⟨d0, d1, d2, d3, d4⟩ := desc_cells R0; have k0 := frozen_of_row _ _ 0 _ _ R0; have k1 := frozen_of_row _ _ 1 _ _ R0; have k2 := frozen_of_row _ _ 2 _ _ R0; have k3 := frozen_of_row _ _ 3 _ _ R0; have k_4 := frozen_of_row _ _ 4 _ _ R0
            obtain ⟨t1, m1, r1_, s1, v1, R1⟩ := D9.r5 g1 (by simp); obtain ⟨e0, e1, e2, e3, e4⟩ := desc_cells R1; have l0 := frozen_of_row _ _ 0 _ _ R1; have l1 := frozen_of_row _ _ 1 _ _ R1; have l2 := frozen_of_row _ _ 2 _ _ R1; have l3 := frozen_of_row _ _ 3 _ _ R1; have l4 := frozen_of_row _ _ 4 _ _ R1
            have n1 : g0 ≠ g1 := (by omega)
            have n2 : g1 ≠ g0 := (by omega)
            have n3 : g0 ≠ b8 := (by omega)
            have n4 : b8 ≠ g0 := (by omega)
            have n5 : g1 ≠ b8 := (by omega)
            have n6 : b8 ≠ g1 := (by omega)
            have n7 : g0 ≠ b9 := (by omega)
            have n8 : b9 ≠ g0 := (by omega)
            have n9 : g1 ≠ b9 := (by omega)
            have n10 : b9 ≠ g1 := (by omega)
            have HD := Lib.hid (And.intro D9 Q9)
            clear D9 Q9
            cases qz : (z == 0)
            · go_upto_region 16 with fail
              go_region_held3 (fun w' => w'.cell? ⟨b8, 0, none⟩ = some (.int .i64 t8) ∧ w'.cell? ⟨b8, 1, none⟩ = some (.int .i64 m8) ∧ w'.cell? ⟨b8, 2, none⟩ = some (.int .i64 r8) ∧ w'.cell? ⟨b8, 3, none⟩ = some (.int .i64 s8) ∧ w'.cell? ⟨b8, 4, none⟩ = some (.int .i64 v8) ∧ w'.cell? ⟨b9, 0, none⟩ = some (.int .i64 t7) ∧ w'.cell? ⟨b9, 1, none⟩ = some (.int .i64 m7) ∧ w'.cell? ⟨b9, 2, none⟩ = some (.int .i64 r7) ∧ w'.cell? ⟨b9, 3, none⟩ = some (.int .i64 s7) ∧ w'.cell? ⟨b9, 4, none⟩ = some (.int .i64 v7)) (go_keep) (fail)
              all_goals go_wp2
              all_goals (obtain ⟨D9, Q9⟩ := HD.out; clear HD; generalize hWF : World.setCell _ _ _ = WF; have X : DM w B g [b9, b8, g0, g1] WF ∧ Row ob (v10) (48) WF := (by rw [← hWF]; first | exact ⟨((D9.five (q := g0) (by simp) t8 m8 r8 s8 v8).five (q := g1) (by simp) t7 m7 r7 s7 v7), ((Q9.five (q := g0) (by omega) _ _ _ _ _).five (q := g1) (by omega) _ _ _ _ _)⟩ | exact ⟨((D9.five (q := g1) (by simp) t7 m7 r7 s7 v7).five (q := g0) (by simp) t8 m8 r8 s8 v8), ((Q9.five (q := g1) (by omega) _ _ _ _ _).five (q := g0) (by omega) _ _ _ _ _)⟩); clear hWF D9 Q9 b0 b1 b2 b3 b4 c0 c1 c2 c3 c4 d0 d1 d2 d3 d4 e0 e1 e2 e3 e4 k0 k1 k2 k3 k_4 l0 l1 l2 l3 l4 R7 R8 R0 R1; obtain ⟨X, Y⟩ := X; obtain ⟨t0, m0, r0, s0, v0, R0⟩ := X.r5 g0 (by simp); obtain ⟨t1, m1, r1_, s1, v1, R1⟩ := X.r5 g1 (by simp); obtain ⟨b0, b1, b2, b3, b4⟩ := desc_cells R0; obtain ⟨c0, c1, c2, c3, c4⟩ := desc_cells R1; obtain ⟨xs, hx, o⟩ := Y; obtain ⟨A10, c10, e10, I10⟩ := o.ints (by omega); rw [hx] at e10 I10; exact bodyPost_ret (v := .tuple #[.int .i64 kk, .agg #[.int .i64 t0, .int .i64 m0, .int .i64 r0, .int .i64 s0, .int .i64 v0], .agg #[.int .i64 t1, .int .i64 m1, .int .i64 r1_, .int .i64 s1, .int .i64 v1], v10]) (by simp [results, Try.results62, go_sem, b0, b1, b2, b3, b4, c0, c1, c2, c3, c4]) rfl ⟨_, _, _, _, _, _, _, _, _, _, _, _, _, _, xs, by rw [e10], I10, by omega, by first | exact X.bel | exact X.bel.drew⟩)
            · go_upto_region 15 with fail
              go_region_held3 (fun w' => w'.cell? ⟨b8, 0, none⟩ = some (.int .i64 t8) ∧ w'.cell? ⟨b8, 1, none⟩ = some (.int .i64 m8) ∧ w'.cell? ⟨b8, 2, none⟩ = some (.int .i64 r8) ∧ w'.cell? ⟨b8, 3, none⟩ = some (.int .i64 s8) ∧ w'.cell? ⟨b8, 4, none⟩ = some (.int .i64 v8)) (go_keep) (fail)
              all_goals go_wp2
              all_goals (obtain ⟨D9, Q9⟩ := HD.out; clear HD; generalize hWF : World.setCell _ _ _ = WF; have X : DM w B g [b9, b8, g0, g1] WF ∧ Row ob (v10) (48) WF := (by rw [← hWF]; first | exact ⟨((D9.five (q := g0) (by simp) t8 m8 r8 s8 v8).five (q := g1) (by simp) t8 m8 r8 s8 v8), ((Q9.five (q := g0) (by omega) _ _ _ _ _).five (q := g1) (by omega) _ _ _ _ _)⟩ | exact ⟨((D9.five (q := g1) (by simp) t8 m8 r8 s8 v8).five (q := g0) (by simp) t8 m8 r8 s8 v8), ((Q9.five (q := g1) (by omega) _ _ _ _ _).five (q := g0) (by omega) _ _ _ _ _)⟩); clear hWF D9 Q9 b0 b1 b2 b3 b4 c0 c1 c2 c3 c4 d0 d1 d2 d3 d4 e0 e1 e2 e3 e4 k0 k1 k2 k3 k_4 l0 l1 l2 l3 l4 R7 R8 R0 R1; obtain ⟨X, Y⟩ := X; obtain ⟨t0, m0, r0, s0, v0, R0⟩ := X.r5 g0 (by simp); obtain ⟨t1, m1, r1_, s1, v1, R1⟩ := X.r5 g1 (by simp); obtain ⟨b0, b1, b2, b3, b4⟩ := desc_cells R0; obtain ⟨c0, c1, c2, c3, c4⟩ := desc_cells R1; obtain ⟨xs, hx, o⟩ := Y; obtain ⟨A10, c10, e10, I10⟩ := o.ints (by omega); rw [hx] at e10 I10; exact bodyPost_ret (v := .tuple #[.int .i64 kk, .agg #[.int .i64 t0, .int .i64 m0, .int .i64 r0, .int .i64 s0, .int .i64 v0], .agg #[.int .i64 t1, .int .i64 m1, .int .i64 r1_, .int .i64 s1, .int .i64 v1], v10]) (by simp [results, Try.results62, go_sem, b0, b1, b2, b3, b4, c0, c1, c2, c3, c4]) rfl ⟨_, _, _, _, _, _, _, _, _, _, _, _, _, _, xs, by rw [e10], I10, by omega, by first | exact X.bel | exact X.bel.drew⟩)
      · have hp3 : (p : Int) ≤ 80 := by omega
        have hp4 : (32 : Int) ≤ p := by omega
        go_wp2_with fail
        refine (s_l01Next g B p _ D9.src).mono ?_
        rintro e wy ⟨y, rfl, y0, y1, SY, gy⟩
        obtain ⟨j, rfl⟩ := Int.eq_ofNat_of_zero_le y0
        have hj : j < p := by omega
        have DY := D9.draw SY gy
        have QY := (Q9.draw yg gy).takeTo j (by omega)
        clear D9 Q9 SY gy
        have D9 := DY
        have Q9 := QY
        clear DY QY
        have b0 : (0 : Int) ≤ (j : Int) := by omega
        have b1 : (j : Int) ≤ (p : Int) := by omega
        go_upto_region 14 with fail
        clear b0 b1
        go_wp2_with fail
        refine (s_l01Next g B 2 _ D9.src).mono ?_
        rintro e wz ⟨z, rfl, _, _, SZ, gz⟩
        have DZ := D9.draw SZ gz
        have QZ := Q9.draw yg gz
        clear D9 Q9 SZ gz
        have D9 := DZ
        have Q9 := QZ
        clear DZ QZ
        obtain ⟨t8, m8, r8, s8, v8, R8⟩ := D9.r5 b8 (by simp); obtain ⟨b0, b1, b2, b3, b4⟩ := desc_cells R8
        obtain ⟨t7, m7, r7, s7, v7, R7⟩ := D9.r5 b9 (by simp); obtain ⟨c0, c1, c2, c3, c4⟩ := desc_cells R7
        obtain ⟨t0, m0, r0, s0, v0, R0⟩ := D9.r5 g0 (by simp); obtain ⟨d0, d1, d2, d3, d4⟩ := desc_cells R0; have k0 := frozen_of_row _ _ 0 _ _ R0; have k1 := frozen_of_row _ _ 1 _ _ R0; have k2 := frozen_of_row _ _ 2 _ _ R0; have k3 := frozen_of_row _ _ 3 _ _ R0; have k_4 := frozen_of_row _ _ 4 _ _ R0
        obtain ⟨t1, m1, r1_, s1, v1, R1⟩ := D9.r5 g1 (by simp); obtain ⟨e0, e1, e2, e3, e4⟩ := desc_cells R1; have l0 := frozen_of_row _ _ 0 _ _ R1; have l1 := frozen_of_row _ _ 1 _ _ R1; have l2 := frozen_of_row _ _ 2 _ _ R1; have l3 := frozen_of_row _ _ 3 _ _ R1; have l4 := frozen_of_row _ _ 4 _ _ R1
        have n1 : g0 ≠ g1 := (by omega)
        have n2 : g1 ≠ g0 := (by omega)
        have n3 : g0 ≠ b8 := (by omega)
        have n4 : b8 ≠ g0 := (by omega)
        have n5 : g1 ≠ b8 := (by omega)
        have n6 : b8 ≠ g1 := (by omega)
        have n7 : g0 ≠ b9 := (by omega)
        have n8 : b9 ≠ g0 := (by omega)
        have n9 : g1 ≠ b9 := (by omega)
        have n10 : b9 ≠ g1 := (by omega)
        have HD := Lib.hid (And.intro D9 Q9)
        clear D9 Q9
        cases qz : (z == 0)
        · go_upto_region 16 with fail
          go_region_held3 (fun w' => w'.cell? ⟨b8, 0, none⟩ = some (.int .i64 t8) ∧ w'.cell? ⟨b8, 1, none⟩ = some (.int .i64 m8) ∧ w'.cell? ⟨b8, 2, none⟩ = some (.int .i64 r8) ∧ w'.cell? ⟨b8, 3, none⟩ = some (.int .i64 s8) ∧ w'.cell? ⟨b8, 4, none⟩ = some (.int .i64 v8) ∧ w'.cell? ⟨b9, 0, none⟩ = some (.int .i64 t7) ∧ w'.cell? ⟨b9, 1, none⟩ = some (.int .i64 m7) ∧ w'.cell? ⟨b9, 2, none⟩ = some (.int .i64 r7) ∧ w'.cell? ⟨b9, 3, none⟩ = some (.int .i64 s7) ∧ w'.cell? ⟨b9, 4, none⟩ = some (.int .i64 v7)) (go_keep) (fail)
          all_goals go_wp2
          all_goals (obtain ⟨D9, Q9⟩ := HD.out; clear HD; generalize hWF : World.setCell _ _ _ = WF; have X : DM w B g [b9, b8, g0, g1] WF ∧ Row ob (.slice (some ⟨ob, 0, none⟩) j p) (j) WF := (by rw [← hWF]; first | exact ⟨((D9.five (q := g0) (by simp) t8 m8 r8 s8 v8).five (q := g1) (by simp) t7 m7 r7 s7 v7), ((Q9.five (q := g0) (by omega) _ _ _ _ _).five (q := g1) (by omega) _ _ _ _ _)⟩ | exact ⟨((D9.five (q := g1) (by simp) t7 m7 r7 s7 v7).five (q := g0) (by simp) t8 m8 r8 s8 v8), ((Q9.five (q := g1) (by omega) _ _ _ _ _).five (q := g0) (by omega) _ _ _ _ _)⟩); clear hWF D9 Q9 b0 b1 b2 b3 b4 c0 c1 c2 c3 c4 d0 d1 d2 d3 d4 e0 e1 e2 e3 e4 k0 k1 k2 k3 k_4 l0 l1 l2 l3 l4 R7 R8 R0 R1; obtain ⟨X, Y⟩ := X; obtain ⟨t0, m0, r0, s0, v0, R0⟩ := X.r5 g0 (by simp); obtain ⟨t1, m1, r1_, s1, v1, R1⟩ := X.r5 g1 (by simp); obtain ⟨b0, b1, b2, b3, b4⟩ := desc_cells R0; obtain ⟨c0, c1, c2, c3, c4⟩ := desc_cells R1; obtain ⟨xs, hx, o⟩ := Y; obtain ⟨A10, c10, e10, I10⟩ := o.ints (by omega); rw [hx] at e10 I10; exact bodyPost_ret (v := .tuple #[.int .i64 kk, .agg #[.int .i64 t0, .int .i64 m0, .int .i64 r0, .int .i64 s0, .int .i64 v0], .agg #[.int .i64 t1, .int .i64 m1, .int .i64 r1_, .int .i64 s1, .int .i64 v1], .slice (some ⟨ob, 0, none⟩) j p]) (by simp [results, Try.results62, go_sem, b0, b1, b2, b3, b4, c0, c1, c2, c3, c4]) rfl ⟨_, _, _, _, _, _, _, _, _, _, _, _, _, _, xs, by rw [e10], I10, by omega, by first | exact X.bel | exact X.bel.drew⟩)
        · go_upto_region 15 with fail
          go_region_held3 (fun w' => w'.cell? ⟨b8, 0, none⟩ = some (.int .i64 t8) ∧ w'.cell? ⟨b8, 1, none⟩ = some (.int .i64 m8) ∧ w'.cell? ⟨b8, 2, none⟩ = some (.int .i64 r8) ∧ w'.cell? ⟨b8, 3, none⟩ = some (.int .i64 s8) ∧ w'.cell? ⟨b8, 4, none⟩ = some (.int .i64 v8)) (go_keep) (fail)
          all_goals go_wp2
          all_goals (obtain ⟨D9, Q9⟩ := HD.out; clear HD; generalize hWF : World.setCell _ _ _ = WF; have X : DM w B g [b9, b8, g0, g1] WF ∧ Row ob (.slice (some ⟨ob, 0, none⟩) j p) (j) WF := (by rw [← hWF]; first | exact ⟨((D9.five (q := g0) (by simp) t8 m8 r8 s8 v8).five (q := g1) (by simp) t8 m8 r8 s8 v8), ((Q9.five (q := g0) (by omega) _ _ _ _ _).five (q := g1) (by omega) _ _ _ _ _)⟩ | exact ⟨((D9.five (q := g1) (by simp) t8 m8 r8 s8 v8).five (q := g0) (by simp) t8 m8 r8 s8 v8), ((Q9.five (q := g1) (by omega) _ _ _ _ _).five (q := g0) (by omega) _ _ _ _ _)⟩); clear hWF D9 Q9 b0 b1 b2 b3 b4 c0 c1 c2 c3 c4 d0 d1 d2 d3 d4 e0 e1 e2 e3 e4 k0 k1 k2 k3 k_4 l0 l1 l2 l3 l4 R7 R8 R0 R1; obtain ⟨X, Y⟩ := X; obtain ⟨t0, m0, r0, s0, v0, R0⟩ := X.r5 g0 (by simp); obtain ⟨t1, m1, r1_, s1, v1, R1⟩ := X.r5 g1 (by simp); obtain ⟨b0, b1, b2, b3, b4⟩ := desc_cells R0; obtain ⟨c0, c1, c2, c3, c4⟩ := desc_cells R1; obtain ⟨xs, hx, o⟩ := Y; obtain ⟨A10, c10, e10, I10⟩ := o.ints (by omega); rw [hx] at e10 I10; exact bodyPost_ret (v := .tuple #[.int .i64 kk, .agg #[.int .i64 t0, .int .i64 m0, .int .i64 r0, .int .i64 s0, .int .i64 v0], .agg #[.int .i64 t1, .int .i64 m1, .int .i64 r1_, .int .i64 s1, .int .i64 v1], .slice (some ⟨ob, 0, none⟩) j p]) (by simp [results, Try.results62, go_sem, b0, b1, b2, b3, b4, c0, c1, c2, c3, c4]) rfl ⟨_, _, _, _, _, _, _, _, _, _, _, _, _, _, xs, by rw [e10], I10, by omega, by first | exact X.bel | exact X.bel.drew⟩)
end Go.Proofs.Ytecelofoffdjlaa

/- The distance of two states; the plain end of the law on missed errors. -/
import Derived.Test.YtecelofoffdjlaaMis3
import Derived.Deep.RegionHeld3
import Derived.BigRegion
namespace Go.Proofs.Ytecelofoffdjlaa
open Go.RowKit
set_option linter.unusedSimpArgs false
set_option linter.unusedVariables false
theorem mis_end {k : Int} {sa sb : Bool} {SA SB xs : List Int} (hn : xs.length ≤ 900) (h : meC k sa sb xs = 0) :
    sa = true ∧ sb = true ∧ bitsOk xs = true ∧ ((wt xs + (if k = 0 then (diffL SA SB 64).length else 0)) = 0 → meV k sa sb SA SB xs = true) ∧
      (1 ≤ (wt xs + (if k = 0 then (diffL SA SB 64).length else 0)) → (wt xs + (if k = 0 then (diffL SA SB 64).length else 0)) ≤ 3 → meV k sa sb SA SB xs = false) := by
  have h1 : (sa && sb) = true := by
    cases hs : (sa && sb)
    · simp [meC, hs] at h
    · rfl
  have h2 : kdOk k = true := by
    cases hs : kdOk k
    · simp [meC, h1, hs] at h
    · rfl
  have h3 : mlOk xs = true := by
    cases hs : mlOk xs
    · simp [meC, h1, h2, hs] at h
    · rfl
  have hb : bitsOk xs = true := by simp only [mlOk, Bool.and_eq_true] at h3; exact h3.1.1.1.1
  obtain ⟨l0, l1⟩ := mis_law k SA SB h3 hn
  simp only [Bool.and_eq_true] at h1
  refine ⟨h1.1, h1.2, hb, fun hT => ?_, fun hT1 hT2 => ?_⟩
  · simp only [meV, h, l0 hT]; rfl
  · simp only [meV, l1 hT1 hT2]; simp
set_option maxHeartbeats 2000000 in
theorem i_StateDistance (t m r s v t' m' r' s' v' : Int) (w : World) (ha : stOk t m r s v = true) (hb : stOk t' m' r' s' v' = true) :
    Calls Try.prog 64 #[.agg #[.int .i64 t, .int .i64 m, .int .i64 r, .int .i64 s, .int .i64 v], .agg #[.int .i64 t', .int .i64 m', .int .i64 r', .int .i64 s', .int .i64 v']] w fun e w' =>
      e = .returned (.tuple #[.int .i64 (((diffL (stBits t.toNat m.toNat r.toNat s.toNat v.toNat) (stBits t'.toNat m'.toNat r'.toNat s'.toNat v'.toNat) 64).length : Nat) : Int), .int .i64 0]) ∧ Below w.heap.size w w' := by
  have HA := Lib.hid (fun W => i_IsState t m r s v W)
  have HB := Lib.hid (fun W => i_IsState t' m' r' s' v' W)
  rw [ha] at HA
  rw [hb] at HB
  have HSA := Lib.hid (fun W => i_stateBits' t m r s v W ha)
  have HSB := Lib.hid (fun W => i_stateBits' t' m' r' s' v' W hb)
  have lA := Lib.hid (stBits_len t.toNat m.toNat r.toNat s.toNat v.toNat)
  have lB := Lib.hid (stBits_len t'.toNat m'.toNat r'.toNat s'.toNat v'.toNat)
  clear ha hb
  generalize stBits t.toNat m.toNat r.toNat s.toNat v.toNat = SA at *
  generalize stBits t'.toNat m'.toNat r'.toNat s'.toNat v'.toNat = SB at *
  obtain ⟨RA, RB, BW, zW⟩ := two_rows w #[.int .i64 t, .int .i64 m, .int .i64 r, .int .i64 s, .int .i64 v] #[.int .i64 t', .int .i64 m', .int .i64 r', .int .i64 s', .int .i64 v'] 45 45
  have hD := diffL_len SA SB 64
  go_enter Try.func64, Try.ntmps64
  go_wp2_with fail
  generalize (w.alloc _).alloc _ = W at *
  generalize hg : w.heap.size = g at *
  have HG := Lib.hid hg
  clear hg
  have zW : g + 2 ≤ W.heap.size := by omega
  obtain ⟨d0, d1, d2, d3, d4⟩ := cells5 RA
  obtain ⟨p0, p1, p2, p3, p4⟩ := cells5 RB
  refine (HA.out _).mono ?_
  rintro e w1 ⟨rfl, b1⟩
  have z1 := b1.size
  replace RA := (b1.block g (by omega)).trans RA
  replace RB := (b1.block (g + 1) (by omega)).trans RB
  replace BW := BW.trans (b1.mono (by omega))
  clear d0 d1 d2 d3 d4 p0 p1 p2 p3 p4 b1
  obtain ⟨d0, d1, d2, d3, d4⟩ := cells5 RA
  obtain ⟨p0, p1, p2, p3, p4⟩ := cells5 RB
  clear HA
  go_wp2_with fail
  refine (HB.out _).mono ?_
  rintro e w2 ⟨rfl, b2⟩
  have z2 := b2.size
  replace RA := (b2.block g (by omega)).trans RA
  replace RB := (b2.block (g + 1) (by omega)).trans RB
  replace BW := BW.trans (b2.mono (by omega))
  clear d0 d1 d2 d3 d4 p0 p1 p2 p3 p4 b2
  obtain ⟨d0, d1, d2, d3, d4⟩ := cells5 RA
  obtain ⟨p0, p1, p2, p3, p4⟩ := cells5 RB
  clear HB
  go_wp2_with fail
  go_region_held3 (fun w' => w'.cell? ⟨g, 0, none⟩ = some (.int .i64 t) ∧ w'.cell? ⟨g, 1, none⟩ = some (.int .i64 m) ∧ w'.cell? ⟨g, 2, none⟩ = some (.int .i64 r) ∧ w'.cell? ⟨g, 3, none⟩ = some (.int .i64 s) ∧ w'.cell? ⟨g, 4, none⟩ = some (.int .i64 v) ∧ w'.cell? ⟨g + 1, 0, none⟩ = some (.int .i64 t') ∧ w'.cell? ⟨g + 1, 1, none⟩ = some (.int .i64 m') ∧ w'.cell? ⟨g + 1, 2, none⟩ = some (.int .i64 r') ∧ w'.cell? ⟨g + 1, 3, none⟩ = some (.int .i64 s') ∧ w'.cell? ⟨g + 1, 4, none⟩ = some (.int .i64 v')) (go_keep) (first
    | (go_at_call 113; refine (i_differing _ _ 64 _ _ _ _ _ _ _ (i3.below b4) i4 (by omega) (by omega)).mono ?_; rintro e w5 ⟨u5, rfl, o5, b5⟩; obtain ⟨A5, c5, e5, i5⟩ := o5.ints (by omega); subst e5; have z5 := b5.size; have RA5 := (b5.block g (by omega)).trans RA4; have RB5 := (b5.block (g + 1) (by omega)).trans RB4; obtain ⟨d0, d1, d2, d3, d4⟩ := cells5 RA5; obtain ⟨p0, p1, p2, p3, p4⟩ := cells5 RB5)
    | (go_at_call 95; have chk := i3; clear chk; refine (HSB.out _).mono ?_; rintro e w4 ⟨u4, rfl, o4, b4⟩; obtain ⟨A4, c4, e4, i4⟩ := o4.ints (by rw [lB.out]; omega); rw [lB.out] at e4 i4; subst e4; have z4 := b4.size; have RA4 := (b4.block g (by omega)).trans RA3; have RB4 := (b4.block (g + 1) (by omega)).trans RB3; obtain ⟨d0, d1, d2, d3, d4⟩ := cells5 RA4; obtain ⟨p0, p1, p2, p3, p4⟩ := cells5 RB4)
    | (go_at_call 95; refine (HSA.out _).mono ?_; rintro e w3 ⟨u3, rfl, o3, b3⟩; obtain ⟨A3, c3, e3, i3⟩ := o3.ints (by rw [lA.out]; omega); rw [lA.out] at e3 i3; subst e3; have z3 : w2.heap.size ≤ w3.heap.size := b3.size; have RA3 := (b3.block g (show g < w2.heap.size by omega)).trans RA; have RB3 := (b3.block (g + 1) (show g + 1 < w2.heap.size by omega)).trans RB; obtain ⟨d0, d1, d2, d3, d4⟩ := cells5 RA3; obtain ⟨p0, p1, p2, p3, p4⟩ := cells5 RB3))
  have BX : Below g w w5 := ((BW.drew.trans (b3.mono (show g ≤ w2.heap.size by omega))).trans (b4.mono (by omega))).trans (b5.mono (by omega))
  go_wp2
  go_ret2
  exact ⟨rfl, by rw [HG.out]; exact BX⟩
end Go.Proofs.Ytecelofoffdjlaa

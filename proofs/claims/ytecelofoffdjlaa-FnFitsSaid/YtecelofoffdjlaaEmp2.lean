/- Contracts of EmptyFrame, of the program and of the reference. -/
import Derived.Test.YtecelofoffdjlaaEmp
namespace Go.Proofs.Ytecelofoffdjlaa
open Go.RowKit
set_option linter.unusedSimpArgs false
set_option linter.unusedVariables false
def efC (nd dk dz du : Int) (ch : Bool) (t m r s v : Int) : Int :=
  if descOk nd dk dz du ch = false then 1 else if frOk dk 0 (stZ dk t) (stZ dk m) (stZ dk r) (stZ dk s) (stZ dk v) (List.replicate dz.toNat 0) = false then 2 else 0
def efX (c x : Int) : Int := if c = 0 then x else 0
def efL (c dz : Int) : List Int := if c = 0 then List.replicate dz.toNat 0 else []
theorem desc_dz {nd dk dz du : Int} {ch : Bool} (h : descOk nd dk dz du ch = true) : 0 ≤ dz ∧ dz ≤ 32 := by
  have := desc_bd h; omega
theorem efC_1 {nd dk dz du : Int} {ch : Bool} {t m r s v : Int} (h : descOk nd dk dz du ch = false) : efC nd dk dz du ch t m r s v = 1 := by simp only [efC, h, if_true]
theorem efC_2 {nd dk du : Int} {n : Nat} {ch : Bool} {t m r s v : Int} (h : descOk nd dk n du ch = true) (h2 : frOk dk 0 (stZ dk t) (stZ dk m) (stZ dk r) (stZ dk s) (stZ dk v) (List.replicate n 0) = false) : efC nd dk n du ch t m r s v = 2 := by
  simp only [efC, h, Int.toNat_natCast, h2, if_true]; simp
theorem efC_0 {nd dk du : Int} {n : Nat} {ch : Bool} {t m r s v : Int} (h : descOk nd dk n du ch = true) (h2 : frOk dk 0 (stZ dk t) (stZ dk m) (stZ dk r) (stZ dk s) (stZ dk v) (List.replicate n 0) = true) : efC nd dk n du ch t m r s v = 0 := by
  simp only [efC, h, Int.toNat_natCast, h2]; simp
/-- What EmptyFrame returns, and of what memory. -/
def EmpPost (w : World) (nd dk dz du : Int) (ch : Bool) (t m r s v : Int) (e : Ending) (w' : World) : Prop :=
  ∃ vs, e = .returned (.tuple #[.agg #[.int .i64 (efX (efC nd dk dz du ch t m r s v) dk), .int .i64 0, .int .i64 (efX (efC nd dk dz du ch t m r s v) (stZ dk t)), .int .i64 (efX (efC nd dk dz du ch t m r s v) (stZ dk m)), .int .i64 (efX (efC nd dk dz du ch t m r s v) (stZ dk r)), .int .i64 (efX (efC nd dk dz du ch t m r s v) (stZ dk s)), .int .i64 (efX (efC nd dk dz du ch t m r s v) (stZ dk v)), vs], .int .i64 (efC nd dk dz du ch t m r s v)]) ∧
    IOwn w' w.heap.size vs (efL (efC nd dk dz du ch t m r s v) dz) ∧ Below w.heap.size w w'
theorem empPost_bad {w w' : World} {nd dk dz du : Int} {ch : Bool} {t m r s v c : Int} (h : efC nd dk dz du ch t m r s v = c) (hc : c ≠ 0) (hb : Below w.heap.size w w') :
    EmpPost w nd dk dz du ch t m r s v (.returned (.tuple #[.agg #[.int .i64 0, .int .i64 0, .int .i64 0, .int .i64 0, .int .i64 0, .int .i64 0, .int .i64 0, .slice none 0 0], .int .i64 c])) w' := by
  unfold EmpPost efX efL
  rw [h]
  simp only [hc, if_false]
  exact ⟨_, rfl, IOwn.nil _ _, hb⟩
theorem empPost_good {w w' : World} {nd dk dz du : Int} {ch : Bool} {t m r s v : Int} {vs : Value} (h : efC nd dk dz du ch t m r s v = 0) (ho : IOwn w' w.heap.size vs (List.replicate dz.toNat 0)) (hb : Below w.heap.size w w') :
    EmpPost w nd dk dz du ch t m r s v (.returned (.tuple #[.agg #[.int .i64 dk, .int .i64 0, .int .i64 (stZ dk t), .int .i64 (stZ dk m), .int .i64 (stZ dk r), .int .i64 (stZ dk s), .int .i64 (stZ dk v), vs], .int .i64 0])) w' := by
  unfold EmpPost efX efL
  rw [h]
  simp only [if_true]
  exact ⟨_, rfl, ho, hb⟩
set_option maxHeartbeats 2000000 in
theorem i_EmptyFrame (nd dk dz du : Int) (ch : Bool) (t m r s v : Int) (w : World) :
    Calls Try.prog 33 #[.agg #[.int .i64 nd, .int .i64 dk, .int .i64 dz, .int .i64 du, .bool ch], .agg #[.int .i64 t, .int .i64 m, .int .i64 r, .int .i64 s, .int .i64 v]] w (EmpPost w nd dk dz du ch t m r s v) := by
  cases hd : descOk nd dk dz du ch
  · go_enter Try.func33, Try.ntmps33
    go_wp2_with fail
    generalize hW0 : World.alloc _ _ = W0
    obtain ⟨x0, x1, x2, BW0⟩ := alloc3_of hW0
    clear hW0
    have y2 : w.heap.size ≤ w.heap.size + 1 + 1 := (by omega)
    generalize w.heap.size + 1 + 1 = g2 at x2 y2 ⊢
    have zW0 := Below.lt_of' x2
    refine (i_IsDescriptor nd dk dz du ch _).mono ?_
    rw [hd]
    rintro e w1 ⟨rfl, hb⟩
    have r2 := (hb.block g2 zW0).trans x2
    have B1 := BW0.trans (hb.mono BW0.size)
    clear hb x0 x1 x2 BW0
    obtain ⟨d0, d1, d2, d3, d4, d5, d6, d7⟩ := fr_cells r2
    have k0 := frozen_of_row _ _ 0 _ _ r2
    have k1 := frozen_of_row _ _ 1 _ _ r2
    have k2 := frozen_of_row _ _ 2 _ _ r2
    have k3 := frozen_of_row _ _ 3 _ _ r2
    have k4 := frozen_of_row _ _ 4 _ _ r2
    have k5 := frozen_of_row _ _ 5 _ _ r2
    have k6 := frozen_of_row _ _ 6 _ _ r2
    have k7 := frozen_of_row _ _ 7 _ _ r2
    have Rr := Lib.hid (eight_heap (v0 := .int .i64 0) (v1 := .int .i64 0) (v2 := .int .i64 0) (v3 := .int .i64 0) (v4 := .int .i64 0) (v5 := .int .i64 0) (v6 := .int .i64 0) (v7 := .slice none 0 0) r2)
    have BB := Lib.hid (below_eight (v0 := .int .i64 0) (v1 := .int .i64 0) (v2 := .int .i64 0) (v3 := .int .i64 0) (v4 := .int .i64 0) (v5 := .int .i64 0) (v6 := .int .i64 0) (v7 := .slice none 0 0) B1 y2)
    clear r2 B1
    go_wp2
    have R := Rr.out; have B5 := BB.out
    clear Rr BB d0 d1 d2 d3 d4 d5 d6 d7 k0 k1 k2 k3 k4 k5 k6 k7
    revert R B5
    generalize World.setCell _ _ _ = W3
    intro R B5
    obtain ⟨e0, e1, e2, e3, e4, e5, e6, e7⟩ := fr_cells R
    exact bodyPost_ret (v := .tuple #[.agg #[.int .i64 0, .int .i64 0, .int .i64 0, .int .i64 0, .int .i64 0, .int .i64 0, .int .i64 0, .slice none 0 0], .int .i64 1]) (by simp [results, Try.results33, go_sem, e0, e1, e2, e3, e4, e5, e6, e7]) rfl (empPost_bad (efC_1 hd) (by omega) B5)
  · obtain ⟨h0, h1⟩ := desc_dz hd
    obtain ⟨n, rfl⟩ := Int.eq_ofNat_of_zero_le h0
    have hn : n ≤ 32 := by omega
    go_enter Try.func33, Try.ntmps33
    go_wp2_with fail
    generalize hW0 : World.alloc _ _ = W0
    obtain ⟨x0, x1, x2, BW0⟩ := alloc3_of hW0
    clear hW0
    have y1 : w.heap.size < w.heap.size + 1 := (by omega)
    have y2 : w.heap.size + 1 < w.heap.size + 1 + 1 := (by omega)
    generalize w.heap.size + 1 + 1 = g2 at x2 y2 ⊢
    generalize w.heap.size + 1 = g1 at x1 y1 y2 ⊢
    have zW0 := Below.lt_of' x2
    refine (i_IsDescriptor nd dk n du ch _).mono ?_
    rw [hd]
    rintro e w1 ⟨rfl, hb⟩
    have r0 := (hb.block w.heap.size (by omega)).trans x0
    have r1 := (hb.block g1 (by omega)).trans x1
    have r2 := (hb.block g2 zW0).trans x2
    have B1 := BW0.trans (hb.mono BW0.size)
    have z1 := hb.size
    clear hb x0 x1 x2 BW0
    obtain ⟨d0, d1, d2, d3, d4⟩ := desc_cells r0
    obtain ⟨s0, s1, s2, s3, s4⟩ := desc_cells r1
    clear r0 r1
    go_wp2_with fail
    refine (i_emptyFrame nd dk n du ch t m r s v _ (by omega)).mono ?_
    rintro e w2 ⟨vs, rfl, ho, hb⟩
    obtain ⟨As, cs, hvs, I⟩ := ho.ints (by simp; omega)
    rw [List.length_replicate] at hvs I
    subst hvs
    have z2 := hb.size
    have R2 := Lib.hid ((Below.heap_alloc w2 (.cells #[.int .i64 dk, .int .i64 0, .int .i64 (stZ dk t), .int .i64 (stZ dk m), .int .i64 (stZ dk r), .int .i64 (stZ dk s), .int .i64 (stZ dk v), .slice As n cs] 47) g2 (by omega)).trans ((hb.block g2 (by omega)).trans r2))
    have P2 := Lib.hid (heap_alloc_new w2 (.cells #[.int .i64 dk, .int .i64 0, .int .i64 (stZ dk t), .int .i64 (stZ dk m), .int .i64 (stZ dk r), .int .i64 (stZ dk s), .int .i64 (stZ dk v), .slice As n cs] 47))
    have I2 := Lib.hid (I.alloc (Nat.le_refl _) (.cells #[.int .i64 dk, .int .i64 0, .int .i64 (stZ dk t), .int .i64 (stZ dk m), .int .i64 (stZ dk r), .int .i64 (stZ dk s), .int .i64 (stZ dk v), .slice As n cs] 47))
    have O2 := Lib.hid (ho.alloc (.cells #[.int .i64 dk, .int .i64 0, .int .i64 (stZ dk t), .int .i64 (stZ dk m), .int .i64 (stZ dk r), .int .i64 (stZ dk s), .int .i64 (stZ dk v), .slice As n cs] 47))
    have B2 := Lib.hid ((B1.trans (hb.mono (by omega))).alloc (by omega) (.cells #[.int .i64 dk, .int .i64 0, .int .i64 (stZ dk t), .int .i64 (stZ dk m), .int .i64 (stZ dk r), .int .i64 (stZ dk s), .int .i64 (stZ dk v), .slice As n cs] 47))
    have y3 : w2.heap.size < (w2.alloc (.cells #[.int .i64 dk, .int .i64 0, .int .i64 (stZ dk t), .int .i64 (stZ dk m), .int .i64 (stZ dk r), .int .i64 (stZ dk s), .int .i64 (stZ dk v), .slice As n cs] 47)).heap.size := (by simp)
    clear hb ho I r2 B1 d0 d1 d2 d3 d4 s0 s1 s2 s3 s4
    go_wp2_with fail
    generalize w2.alloc _ = W at R2 P2 I2 O2 B2 y3 ⊢
    generalize w2.heap.size = g3 at P2 I2 y3 z2 ⊢
    refine (i_IsFrame dk 0 (stZ dk t) (stZ dk m) (stZ dk r) (stZ dk s) (stZ dk v) _ _ _ _ _ _ I2.out (by omega)).mono ?_
    rintro e w3 ⟨rfl, hb⟩
    have r2 := (hb.block g2 (by omega)).trans R2.out
    have p2 := (hb.block g3 (by omega)).trans P2.out
    have o2 := O2.out.below_ hb
    have B3 := B2.out.trans (hb.mono (by omega))
    clear R2 P2 I2 O2 B2 hb
    cases hf : frOk dk 0 (stZ dk t) (stZ dk m) (stZ dk r) (stZ dk s) (stZ dk v) (List.replicate n 0)
    · clear p2 o2
      obtain ⟨d0, d1, d2, d3, d4, d5, d6, d7⟩ := fr_cells r2
      have k0 := frozen_of_row _ _ 0 _ _ r2
      have k1 := frozen_of_row _ _ 1 _ _ r2
      have k2 := frozen_of_row _ _ 2 _ _ r2
      have k3 := frozen_of_row _ _ 3 _ _ r2
      have k4 := frozen_of_row _ _ 4 _ _ r2
      have k5 := frozen_of_row _ _ 5 _ _ r2
      have k6 := frozen_of_row _ _ 6 _ _ r2
      have k7 := frozen_of_row _ _ 7 _ _ r2
      have Rr := Lib.hid (eight_heap (v0 := .int .i64 0) (v1 := .int .i64 0) (v2 := .int .i64 0) (v3 := .int .i64 0) (v4 := .int .i64 0) (v5 := .int .i64 0) (v6 := .int .i64 0) (v7 := .slice none 0 0) r2)
      have BB := Lib.hid (below_eight (v0 := .int .i64 0) (v1 := .int .i64 0) (v2 := .int .i64 0) (v3 := .int .i64 0) (v4 := .int .i64 0) (v5 := .int .i64 0) (v6 := .int .i64 0) (v7 := .slice none 0 0) B3 (g := g2) (by omega))
      clear r2 B3
      go_wp2
      have R := Rr.out; have B5 := BB.out
      clear Rr BB d0 d1 d2 d3 d4 d5 d6 d7 k0 k1 k2 k3 k4 k5 k6 k7
      skip
      revert R B5
      generalize World.setCell _ _ _ = W3
      intro R B5
      obtain ⟨e0, e1, e2, e3, e4, e5, e6, e7⟩ := fr_cells R
      exact bodyPost_ret (v := .tuple #[.agg #[.int .i64 0, .int .i64 0, .int .i64 0, .int .i64 0, .int .i64 0, .int .i64 0, .int .i64 0, .slice none 0 0], .int .i64 2]) (by simp [results, Try.results33, go_sem, e0, e1, e2, e3, e4, e5, e6, e7]) rfl (empPost_bad (efC_2 hd hf) (by omega) B5)
    · obtain ⟨f0, f1, f2, f3, f4, f5, f6, f7⟩ := fr_cells p2
      have OO2 := Lib.hid (o2.eight (g := g2) (by omega) (.int .i64 dk) (.int .i64 0) (.int .i64 (stZ dk t)) (.int .i64 (stZ dk m)) (.int .i64 (stZ dk r)) (.int .i64 (stZ dk s)) (.int .i64 (stZ dk v)) (.slice As n cs))
      clear p2 o2
      obtain ⟨d0, d1, d2, d3, d4, d5, d6, d7⟩ := fr_cells r2
      have k0 := frozen_of_row _ _ 0 _ _ r2
      have k1 := frozen_of_row _ _ 1 _ _ r2
      have k2 := frozen_of_row _ _ 2 _ _ r2
      have k3 := frozen_of_row _ _ 3 _ _ r2
      have k4 := frozen_of_row _ _ 4 _ _ r2
      have k5 := frozen_of_row _ _ 5 _ _ r2
      have k6 := frozen_of_row _ _ 6 _ _ r2
      have k7 := frozen_of_row _ _ 7 _ _ r2
      have Rr := Lib.hid (eight_heap (v0 := .int .i64 dk) (v1 := .int .i64 0) (v2 := .int .i64 (stZ dk t)) (v3 := .int .i64 (stZ dk m)) (v4 := .int .i64 (stZ dk r)) (v5 := .int .i64 (stZ dk s)) (v6 := .int .i64 (stZ dk v)) (v7 := .slice As n cs) r2)
      have BB := Lib.hid (below_eight (v0 := .int .i64 dk) (v1 := .int .i64 0) (v2 := .int .i64 (stZ dk t)) (v3 := .int .i64 (stZ dk m)) (v4 := .int .i64 (stZ dk r)) (v5 := .int .i64 (stZ dk s)) (v6 := .int .i64 (stZ dk v)) (v7 := .slice As n cs) B3 (g := g2) (by omega))
      clear r2 B3
      go_wp2
      have R := Rr.out; have B5 := BB.out
      clear Rr BB d0 d1 d2 d3 d4 d5 d6 d7 k0 k1 k2 k3 k4 k5 k6 k7
      have o5 := OO2.out; clear OO2 f0 f1 f2 f3 f4 f5 f6 f7
      revert R B5 o5
      generalize World.setCell _ _ _ = W3
      intro R B5 o5
      obtain ⟨e0, e1, e2, e3, e4, e5, e6, e7⟩ := fr_cells R
      exact bodyPost_ret (v := .tuple #[.agg #[.int .i64 dk, .int .i64 0, .int .i64 (stZ dk t), .int .i64 (stZ dk m), .int .i64 (stZ dk r), .int .i64 (stZ dk s), .int .i64 (stZ dk v), .slice As n cs], .int .i64 0]) (by simp [results, Try.results33, go_sem, e0, e1, e2, e3, e4, e5, e6, e7]) rfl (empPost_good (efC_0 hd hf) (by rw [Int.toNat_natCast]; exact o5.less (by omega)) B5)
end Go.Proofs.Ytecelofoffdjlaa

/- The walk of the law on %s. -/
import Derived.Test.YtgenfffgenddmaaDoorWNtb
import Derived.Test.YtgenfffgenddmaaDoorNod7
namespace Go.Proofs.YtgenfffgenddmaaDoor
open Go.RowKit
set_option linter.unusedSimpArgs false
set_option linter.unusedVariables false
set_option maxHeartbeats 1000000 in
theorem w_FnExactWorstDrift (a0 : Option Addr) (len0 cap0 : Nat) (z0 : List Nd) (t : Int) (w : World) (w0 : ArgNodes w a0 len0 cap0 z0) (w1 : (Lit.int .i64 t).wf = true) :
    Calls Tryd.prog 8 #[.slice a0 len0 cap0, .int .i64 t] w fun e w' => e = .returned (.bool true) ∧ Below w.heap.size w w' := by
  have hS := Lib.hid (h_szNodeInfoS a0 len0 cap0 z0 w w0)
  have hM := Lib.hid (fun h1 h2 => w0.nodes h1 h2)
  clear w0 w1
  go_enter Tryd.func8, Tryd.ntmps8
  go_wp2_with fail
  refine hS.out.mono ?_
  rintro e w1 ⟨x, rfl, hx, b1⟩
  have HX := Lib.hid hx
  clear hx hS
  by_cases h0 : x < 0
  · go_wp2
    go_ret
    exact ⟨rfl, b1⟩
  · have hx0 : decide (x < 0) = false := by simpa using h0
    obtain ⟨q1, q2⟩ := HX.out (by omega)
    have H1 := (hM.out q1 q2).below' (Nat.le_refl _) b1
    have z1 := b1.size
    clear hM HX h0 q2
    go_wp2_with fail
    refine (h_toNodes a0 len0 cap0 z0 _ w1 H1 z1).mono ?_
    rintro e w2 ⟨A2, d2, rfl, M2, b2⟩
    have H2 := H1.below' z1 b2
    have B2 := b1.trans (b2.mono z1)
    have z2 := B2.size
    clear H1 b1 b2 z1
    go_wp2_with fail
    refine (s_WorstDrift _ _ _ z0 t _ w2 M2 (Nat.le_refl _)).mono ?_
    rintro e w3 ⟨rfl, b3⟩
    have H3 := H2.below' z2 b3
    have B3 := B2.trans (b3.mono z2)
    have z3 := B3.size
    clear H2 B2 b3 M2 z2
    go_wp2_with fail
    refine (h_toNodes a0 len0 cap0 z0 _ w3 H3 z3).mono ?_
    rintro e w4 ⟨A4, d4, rfl, M4, b4⟩
    have H4 := H3.below' z3 b4
    have B4 := B3.trans (b4.mono z3)
    have z4 := B4.size
    clear H3 B3 b4 z3
    go_wp2_with fail
    refine (i_WorstDrift _ _ _ z0 t _ w4 M4 (Nat.le_refl _)).mono ?_
    rintro e w5 ⟨rfl, b5⟩
    have H5 := H4.below' z4 b5
    have M5 := M4.below' (Nat.le_refl _) b5
    have B5 := B4.trans (b5.mono z4)
    have z5 := B5.size
    have y5 := b5.size
    clear H4 B4 b5 M4 z4
    generalize wdOut z0 t = q
    obtain ⟨ov, oc⟩ := q
    go_wp2_with fail
    refine (h_toNodes a0 len0 cap0 z0 _ w5 H5 z5).mono ?_
    rintro e w6 ⟨A6, d6, rfl, M6, b6⟩
    have M5' := M5.below' y5 b6
    have y6 := b6.size
    have B6 := B5.trans (b6.mono z5)
    clear H5 B5 b6 M5
    go_wp2_with fail
    refine (h_eqNodeInfoS _ _ _ _ _ z0 _ _ w6 M5' M6 (by omega) (Nat.le_refl _)).mono ?_
    rintro e w7 ⟨rfl, b7⟩
    have B7 := B6.trans (b7.mono B6.size)
    clear B6 b7 M6 M5'
    go_wp2
    go_ret
    exact ⟨rfl, B7⟩
end Go.Proofs.YtgenfffgenddmaaDoor

/- The walk of the law on IsNodeTable. -/
import Derived.Test.YtgenfffgenddmaaDoorNod6
namespace Go.Proofs.YtgenfffgenddmaaDoor
open Go.RowKit
set_option linter.unusedSimpArgs false
set_option linter.unusedVariables false
theorem h_toNodes (A : Option Addr) (n c : Nat) (L : List Nd) (B : Nat) (w : World) (h : NodesAt w B A n c L) (hB : B ≤ w.heap.size) :
    Calls Tryd.prog 26 #[.slice A n c] w fun e w' => ∃ A' c', e = .returned (.slice A' n c') ∧ NodesAt w' w'.heap.size A' n c' L ∧ Below w.heap.size w w' := by
  have hl := h.1
  refine (h_toNodeInfoS A n c L B w h hB).mono ?_
  rintro e w' ⟨v, rfl, ho, hb⟩
  obtain ⟨A', c', rfl, hN⟩ := ho.nodes (by rw [hl]; exact h.2.2.1) (fun k d hd => by
    have hk := (List.getElem?_eq_some_iff.1 hd).1
    obtain ⟨ad, _, _, hc⟩ := h.2.2.2.2 (by omega)
    exact (hc k d hd).2)
  rw [hl] at hN ⊢
  exact ⟨A', c', rfl, hN, hb⟩
set_option maxHeartbeats 1000000 in
theorem w_FnExactIsNodeTable (a0 : Option Addr) (len0 cap0 : Nat) (z0 : List Nd) (w : World) (w0 : ArgNodes w a0 len0 cap0 z0) :
    Calls Tryd.prog 5 #[.slice a0 len0 cap0] w fun e w' => e = .returned (.bool true) ∧ Below w.heap.size w w' := by
  have hS := Lib.hid (h_szNodeInfoS a0 len0 cap0 z0 w w0)
  have hM := Lib.hid (fun h1 h2 => w0.nodes h1 h2)
  clear w0
  go_enter Tryd.func5, Tryd.ntmps5
  go_wp2_with fail
  refine hS.out.mono ?_
  rintro e w1 ⟨x, rfl, hx, b1⟩
  have HX := Lib.hid hx
  clear hx hS
  by_cases h0 : x < 0
  · go_wp2
    go_ret
    exact ⟨rfl, b1⟩
  · have hx0 : decide (x < 0) = false := by simpa using h0
    obtain ⟨q1, q2⟩ := HX.out (by omega)
    have H1 := (hM.out q1 q2).below' (Nat.le_refl _) b1
    have z1 := b1.size
    clear hM HX h0 q2
    go_wp2_with fail
    refine (h_toNodes a0 len0 cap0 z0 _ w1 H1 z1).mono ?_
    rintro e w2 ⟨A2, d2, rfl, M2, b2⟩
    have H2 := H1.below' z1 b2
    have B2 := b1.trans (b2.mono z1)
    have z2 := B2.size
    clear H1 b1 b2 z1
    go_wp2_with fail
    refine (s_IsNodeTable _ _ _ z0 _ w2 M2 (Nat.le_refl _)).mono ?_
    rintro e w3 ⟨rfl, b3⟩
    have H3 := H2.below' z2 b3
    have B3 := B2.trans (b3.mono z2)
    have z3 := B3.size
    clear H2 B2 b3 M2 z2
    go_wp2_with fail
    refine (h_toNodes a0 len0 cap0 z0 _ w3 H3 z3).mono ?_
    rintro e w4 ⟨A4, d4, rfl, M4, b4⟩
    have H4 := H3.below' z3 b4
    have B4 := B3.trans (b4.mono z3)
    have z4 := B4.size
    clear H3 B3 b4 z3
    go_wp2_with fail
    refine (i_IsNodeTable _ _ _ z0 _ w4 M4 (Nat.le_refl _)).mono ?_
    rintro e w5 ⟨rfl, b5⟩
    have H5 := H4.below' z4 b5
    have M5 := M4.below' (Nat.le_refl _) b5
    have B5 := B4.trans (b5.mono z4)
    have z5 := B5.size
    have y5 := b5.size
    clear H4 B4 b5 M4 z4
    generalize ntOk z0 = ok
    go_wp2_with fail
    refine (h_toNodes a0 len0 cap0 z0 _ w5 H5 z5).mono ?_
    rintro e w6 ⟨A6, d6, rfl, M6, b6⟩
    have M5' := M5.below' y5 b6
    have y6 := b6.size
    have B6 := B5.trans (b6.mono z5)
    clear H5 B5 b6 M5
    go_wp2_with fail
    refine (h_eqNodeInfoS _ _ _ _ _ z0 _ _ w6 M5' M6 (by omega) (Nat.le_refl _)).mono ?_
    rintro e w7 ⟨rfl, b7⟩
    have B7 := B6.trans (b7.mono B6.size)
    clear B6 b7 M6 M5'
    go_wp2
    go_ret
    exact ⟨rfl, B7⟩
end Go.Proofs.YtgenfffgenddmaaDoor

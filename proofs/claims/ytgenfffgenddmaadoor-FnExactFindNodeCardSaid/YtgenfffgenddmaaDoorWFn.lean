/- The walk of the law on IsNodeTable. -/
import Derived.Test.YtgenfffgenddmaaDoorWNtb
import Derived.Test.YtgenfffgenddmaaDoorNod9
namespace Go.Proofs.YtgenfffgenddmaaDoor
open Go.RowKit
set_option linter.unusedSimpArgs false
set_option linter.unusedVariables false
set_option maxHeartbeats 1000000 in
theorem w_FnExactFindNode (a0 : Option Addr) (len0 cap0 : Nat) (z0 : List Nd) (t : Int) (w : World) (w0 : ArgNodes w a0 len0 cap0 z0) (w1 : (Lit.int .i64 t).wf = true) :
    Calls Tryd.prog 6 #[.slice a0 len0 cap0, .int .i64 t] w fun e w' => e = .returned (.bool true) ∧ Below w.heap.size w w' := by
  have hS := Lib.hid (h_szNodeInfoS a0 len0 cap0 z0 w w0)
  have hM := Lib.hid (fun h1 h2 => w0.nodes h1 h2)
  clear w0 w1
  go_enter Tryd.func6, Tryd.ntmps6
  go_wp2_with fail
  refine hS.out.mono ?_
  rintro e w1 ⟨x, rfl, hx, b1⟩
  have HX := Lib.hid hx
  clear hx hS
  by_cases h0 : x < 0
  · go_wp2
    go_ret
    exact ⟨rfl, b1⟩
  · have hx0 : decide (x < 0) = false := by simpa using h0
    obtain ⟨q1, q2⟩ := HX.out (by omega)
    have H1 := (hM.out q1 q2).below' (Nat.le_refl _) b1
    have z1 := b1.size
    clear hM HX h0 q2
    go_wp2_with fail
    refine (h_toNodes a0 len0 cap0 z0 _ w1 H1 z1).mono ?_
    rintro e w2 ⟨A2, d2, rfl, M2, b2⟩
    have H2 := H1.below' z1 b2
    have B2 := b1.trans (b2.mono z1)
    have z2 := B2.size
    clear H1 b1 b2 z1
    go_wp2_with fail
    refine (s_FindNode _ _ _ z0 t _ w2 M2 (Nat.le_refl _)).mono ?_
    rintro e w3 ⟨rfl, b3⟩
    have H3 := H2.below' z2 b3
    have B3 := B2.trans (b3.mono z2)
    have z3 := B3.size
    clear H2 B2 b3 M2 z2
    have hI := Lib.hid (fun A n c B W hh hB => i_FindNode A n c z0 t B W hh hB)
    generalize fnOut z0 t = q at *
    obtain ⟨⟨i, s, r, pv⟩, oc⟩ := q
    have hE := Lib.hid (fun W => h_eqNodeInfo ⟨i, s, r, pv⟩ W)
    have R3 := heap_alloc_new w3 (.cells #[.int .i64 i, .string s, .int .i64 r, .bool pv] 36)
    have y3 : w3.heap.size < (w3.alloc (.cells #[.int .i64 i, .string s, .int .i64 r, .bool pv] 36)).heap.size := by simp
    have B3' := B3.alloc z3 (.cells #[.int .i64 i, .string s, .int .i64 r, .bool pv] 36)
    have H3' := H3.below' z3 ((Below.refl _ _).alloc (Nat.le_refl _) (.cells #[.int .i64 i, .string s, .int .i64 r, .bool pv] 36))
    rw [fnVal_d] at *
    simp only [fnVal_d, Nd.cells] at hE hI
    go_upto_region 6 with fail
    generalize hg3 : w3.heap.size = g3 at *
    generalize World.alloc _ _ = W3 at *
    clear B3 H3 hg3
    go_wp2_with fail
    refine (h_toNodes a0 len0 cap0 z0 _ W3 H3' B3'.size).mono ?_
    rintro e w4 ⟨A4, d4, rfl, M4, b4⟩
    have H4 := H3'.below' B3'.size b4
    have B4 := B3'.trans (b4.mono B3'.size)
    have R4 := (b4.block g3 y3).trans R3
    have y4 : g3 < w4.heap.size := Nat.lt_of_lt_of_le y3 b4.size
    have z4 := B4.size
    clear H3' B3' b4 y3 R3 z3
    go_wp2_with fail
    refine (hI.out _ _ _ _ w4 M4 (Nat.le_refl _)).mono ?_
    rintro e w5 ⟨rfl, b5⟩
    have H5 := H4.below' z4 b5
    have M5 := M4.below' (Nat.le_refl _) b5
    have B5 := B4.trans (b5.mono z4)
    have z5 := B5.size
    have yb := b5.size
    have R5 := (b5.block g3 y4).trans R4
    have y5 : g3 < w5.heap.size := Nat.lt_of_lt_of_le y4 b5.size
    clear H4 B4 b5 M4 z4 R4 y4 hI
    have R6 := heap_alloc_new w5 (.cells #[.int .i64 i, .string s, .int .i64 r, .bool pv] 36)
    have hb6 := (Below.refl w5.heap.size w5).alloc (Nat.le_refl _) (.cells #[.int .i64 i, .string s, .int .i64 r, .bool pv] 36)
    have R5' := (hb6.block g3 y5).trans R5
    have B6 := B5.trans (hb6.mono z5)
    have H6 := H5.below' z5 hb6
    have M6 := M5.below' yb hb6
    have z6 := hb6.size
    go_upto_region 8 with fail
    generalize hg5 : w5.heap.size = g5 at *
    generalize World.alloc _ _ = W6 at *
    obtain ⟨c0, c1, c2, c3⟩ := cells4 R5'
    obtain ⟨e0, e1, e2, e3⟩ := cells4 R6
    clear R5 R5' R6 hb6 H5 M5 B5 y5 hg5
    go_wp2_with (go_at_call 30; refine (hE.out _).mono ?_; rintro e w7 ⟨rfl, b7⟩)
    have H7 := H6.below' (by have := B6.size; omega) b7
    have M7 := M6.below' (by omega) b7
    have B7 := B6.trans (b7.mono B6.size)
    have z7 := b7.size
    clear H6 M6 B6 c0 c1 c2 c3 e0 e1 e2 e3 b7 hE
    go_wp2_with fail
    refine (h_toNodes a0 len0 cap0 z0 _ w7 H7 B7.size).mono ?_
    rintro e w8 ⟨A8, d8, rfl, M8, b8⟩
    have M7' := M7.below' (by omega) b8
    have B8 := B7.trans (b8.mono B7.size)
    have z8 := b8.size
    clear H7 B7 M7
    go_wp2_with fail
    refine (h_eqNodeInfoS _ _ _ _ _ z0 _ _ w8 M7' M8 (by omega) (Nat.le_refl _)).mono ?_
    rintro e w9 ⟨rfl, b9⟩
    have B9 := B8.trans (b9.mono B8.size)
    clear B8 b9 M8 M7' b8
    go_wp2
    go_ret
    exact ⟨rfl, B9⟩
end Go.Proofs.YtgenfffgenddmaaDoor

/- A node's copy and size, and the walk of the law on IsNodeInfo. -/
import Derived.Test.YtgenfffgenddmaaDoorNod
namespace Go.Proofs.YtgenfffgenddmaaDoor
open Go.RowKit
set_option linter.unusedSimpArgs false
set_option linter.unusedVariables false
def szV (n : Nat) (left : Int) : Int := if left - n < 0 then -1 else left - n
theorem szV_le (n : Nat) (x : Int) (h : x ≤ 1048576) : -1 ≤ szV n x ∧ szV n x ≤ 1048576 ∧ (0 ≤ szV n x → (n : Int) ≤ x) := by unfold szV; split <;> omega
theorem h_szNodeInfo (d : Nd) (x : Int) (w : World) (hn : d.nm.size ≤ maxLen) (hx : 0 ≤ x ∧ x ≤ 1048576) :
    Calls Tryd.prog 20 #[.agg d.cells, .int .i64 x] w fun e w' => e = .returned (.int .i64 (szV d.nm.size x)) ∧ Below w.heap.size w w' := by
  obtain ⟨i, s, r, p⟩ := d
  unfold Nd.cells
  unfold maxLen at hn
  have hs : s.size ≤ 9223372036854775807 := hn
  clear hn
  obtain ⟨x0, x1⟩ := hx
  have hw : IntKind.i64.wrap (x - s.size) = x - s.size := IntWalk.i64_in _ (by omega)
  have hB := (Below.refl w.heap.size w).alloc (Nat.le_refl _) (.cells #[.int .i64 i, .string s, .int .i64 r, .bool p] 33)
  by_cases h : x - s.size < 0
  · have e : szV s.size x = -1 := by unfold szV; rw [if_pos h]
    show Calls _ _ _ _ fun e w' => e = .returned (.int .i64 (szV s.size x)) ∧ _
    rw [e]
    clear e
    go_enter Tryd.func20, Tryd.ntmps20
    go_wp2
    go_ret
    exact ⟨rfl, hB⟩
  · have e : szV s.size x = x - s.size := by unfold szV; rw [if_neg h]
    show Calls _ _ _ _ fun e w' => e = .returned (.int .i64 (szV s.size x)) ∧ _
    rw [e]
    have h' : decide (x - (s.size : Int) < 0) = false := by simpa using h
    clear e
    go_enter Tryd.func20, Tryd.ntmps20
    go_wp2
    go_ret
    exact ⟨rfl, hB⟩
set_option maxHeartbeats 1000000 in
theorem h_toNodeInfo (d : Nd) (w : World) :
    Calls Tryd.prog 22 #[.agg d.cells] w fun e w' => e = .returned (.agg d.cells) ∧ Below w.heap.size w w' := by
  obtain ⟨i, s, r, p⟩ := d
  unfold Nd.cells
  go_enter Tryd.func22, Tryd.ntmps22
  go_wp2
  exact bodyPost_ret (v := .agg #[.int .i64 i, .string s, .int .i64 r, .bool p]) (by simp [results, Tryd.results22, go_sem]) rfl ⟨rfl, (((Below.refl _ _).alloc (Nat.le_refl _) _).alloc (by simp) _).alloc (by simp; omega) _⟩
set_option maxHeartbeats 1000000 in
theorem w_FnExactIsNodeInfo (d : Nd) (w : World) (hs : d.nm.size ≤ maxLen) :
    Calls Tryd.prog 4 #[.agg d.cells] w fun e w' => e = .returned (.bool true) ∧ Below w.heap.size w w' := by
  have hS := Lib.hid (fun W => h_szNodeInfo d 1048576 W hs (by omega))
  have hT := Lib.hid (fun W => h_toNodeInfo d W)
  have hI := Lib.hid (fun W => i_IsNodeInfo d W hs)
  have hP := Lib.hid (fun W => s_IsNodeInfo d W hs)
  have hR := heap_alloc_new w (.cells d.cells 33)
  have hB := (Below.refl w.heap.size w).alloc (Nat.le_refl _) (.cells d.cells 33)
  clear hs
  generalize szV d.nm.size 1048576 = x at *
  generalize ndOk d = ok at *
  obtain ⟨i, s, r, p⟩ := d
  unfold Nd.cells at *
  go_enter Tryd.func4, Tryd.ntmps4
  go_wp2_with fail
  generalize World.alloc _ _ = W at *
  have zW : w.heap.size ≤ W.heap.size := hB.size
  have zg : w.heap.size < W.heap.size := by
    rcases Nat.lt_or_ge w.heap.size W.heap.size with h | h
    · exact h
    · rw [Array.getElem?_eq_none h] at hR; cases hR
  refine (hS.out W).mono ?_
  rintro e w1 ⟨rfl, b1⟩
  have R1 := (b1.block _ zg).trans hR
  have B1 := hB.trans (b1.mono zW)
  have z1 := b1.size
  clear hR hB b1 hS
  obtain ⟨c0, c1, c2, c3⟩ := cells4 R1
  by_cases h0 : x < 0
  · go_wp2
    go_ret
    exact ⟨rfl, B1⟩
  · have hx : decide (x < 0) = false := by simpa using h0
    clear h0
    go_wp2_with fail
    refine (hT.out w1).mono ?_
    rintro e w2 ⟨rfl, b2⟩
    have R2 := (b2.block _ (by omega)).trans R1
    have B2 := B1.trans (b2.mono (by omega))
    have z2 := b2.size
    clear R1 B1 b2 c0 c1 c2 c3
    go_wp2_with fail
    refine (hP.out w2).mono ?_
    rintro e w3 ⟨rfl, b3⟩
    have R3 := (b3.block _ (by omega)).trans R2
    have B3 := B2.trans (b3.mono (by omega))
    have z3 := b3.size
    clear R2 B2 b3
    obtain ⟨c0, c1, c2, c3⟩ := cells4 R3
    go_wp2_with fail
    refine (hT.out w3).mono ?_
    rintro e w4 ⟨rfl, b4⟩
    have B4 := B3.trans (b4.mono (by omega))
    have z4 := b4.size
    clear R3 B3 b4 c0 c1 c2 c3
    go_wp2_with fail
    refine (hI.out w4).mono ?_
    rintro e w5 ⟨rfl, b5⟩
    have B5 := B4.trans (b5.mono (by omega))
    clear B4 b5
    go_wp2
    go_ret
    exact ⟨rfl, B5⟩
end Go.Proofs.YtgenfffgenddmaaDoor

/- The bits of a state. -/
import Derived.Test.YtecelofoffdjlaaBits
import Derived.BigRegion
import Derived.Deep.RegionHeld3
namespace Go.Proofs.Ytecelofoffdjlaa
open Go.RowKit
set_option linter.unusedSimpArgs false
set_option linter.unusedVariables false
theorem cells5 {w : World} {g : Nat} {a b c d e : Value} {t : TypeId} (h : w.heap[g]? = some (.cells #[a, b, c, d, e] t (0, 0))) :
    w.cell? ⟨g, 0, none⟩ = some a ∧ w.cell? ⟨g, 1, none⟩ = some b ∧ w.cell? ⟨g, 2, none⟩ = some c ∧ w.cell? ⟨g, 3, none⟩ = some d ∧ w.cell? ⟨g, 4, none⟩ = some e :=
  ⟨cell_of_row _ _ _ _ _ _ h, cell_of_row _ _ _ _ _ _ h, cell_of_row _ _ _ _ _ _ h, cell_of_row _ _ _ _ _ _ h, cell_of_row _ _ _ _ _ _ h⟩
def stBits (t m r s v : Nat) : List Int := bitsN t 16 ++ bitsN m 4 ++ bitsN r 4 ++ bitsN s 8 ++ bitsN v 32
theorem stBits_len (t m r s v : Nat) : (stBits t m r s v).length = 64 := by simp [stBits, bitsN_len]
theorem stBits_mem (t m r s v : Nat) : ∀ x ∈ stBits t m r s v, 0 ≤ x ∧ x ≤ 1 := by
  intro x hx
  simp only [stBits, List.mem_append] at hx
  rcases hx with (((h | h) | h) | h) | h <;> exact bitsN_mem _ _ x h
set_option maxHeartbeats 2000000 in
theorem i_stateBits (t m r s v : Nat) (w : World) (ht : t < 65536) (hm : m < 16) (hr : r < 16) (hs : s < 256) (hv : v < 4294967296) :
    Calls Try.prog 95 #[.agg #[.int .i64 t, .int .i64 m, .int .i64 r, .int .i64 s, .int .i64 v]] w fun e w' => ∃ u, e = .returned u ∧ IOwn w' w.heap.size u (stBits t m r s v) ∧ Below w.heap.size w w' := by
  have bA := (Below.refl w.heap.size w).alloc (Nat.le_refl _) (.cells #[.int .i64 t, .int .i64 m, .int .i64 r, .int .i64 s, .int .i64 v] 45)
  have R := heap_alloc_new w (.cells #[.int .i64 t, .int .i64 m, .int .i64 r, .int .i64 s, .int .i64 v] 45)
  have zA : w.heap.size + 1 ≤ (w.alloc (.cells #[.int .i64 t, .int .i64 m, .int .i64 r, .int .i64 s, .int .i64 v] 45)).heap.size := by simp
  obtain ⟨d0, d1, d2, d3, d4⟩ := cells5 R
  generalize hg : w.heap.size = g at *
  go_enter Try.func95, Try.ntmps95
  go_wp2_with (first
    | (go_at_call 122; refine (i_appendNumber v 32 _ _ (g + 1) _ o4 (by omega) (by omega) (by omega) (by simp [bitsN_len])).mono ?_; rintro e w5 ⟨v5, rfl, o5, b5⟩; have z5 := b5.size)
    | (go_at_call 122; refine (i_appendNumber s 8 _ _ (g + 1) _ o3 (by omega) (by omega) (by omega) (by simp [bitsN_len])).mono ?_; rintro e w4 ⟨v4, rfl, o4, b4⟩; have z4 := b4.size; have R4 := (b4.block g (by omega)).trans R3; obtain ⟨h0, h1, h2, h3, h4⟩ := cells5 R4)
    | (go_at_call 122; refine (i_appendNumber r 4 _ _ (g + 1) _ o2 (by omega) (by omega) (by omega) (by simp [bitsN_len])).mono ?_; rintro e w3 ⟨v3, rfl, o3, b3⟩; have z3 := b3.size; have R3 := (b3.block g (by omega)).trans R2; obtain ⟨h0, h1, h2, h3, h4⟩ := cells5 R3)
    | (go_at_call 122; refine (i_appendNumber m 4 _ _ (g + 1) _ o1 (by omega) (by omega) (by omega) (by simp [bitsN_len])).mono ?_; rintro e w2 ⟨v2, rfl, o2, b2⟩; have z2 := b2.size; have R2 := (b2.block g (by omega)).trans R1; obtain ⟨h0, h1, h2, h3, h4⟩ := cells5 R2)
    | (go_at_call 122; refine (i_appendNumber t 16 _ [] (g + 1) _ (IOwn.nil _ _) (by omega) (by omega) (by omega) (by simp)).mono ?_; rintro e w1 ⟨v1, rfl, o1, b1⟩; have z1 := b1.size; have R1 := (b1.block g (by omega)).trans R; obtain ⟨h0, h1, h2, h3, h4⟩ := cells5 R1))
  go_ret
  refine ⟨_, rfl, ?_, ?_⟩
  · have := o5.less (base' := g) (by omega)
    simpa [stBits] using this
  · exact (((((bA.trans (b1.mono (by omega))).trans (b2.mono (by omega))).trans (b3.mono (by omega))).trans (b4.mono (by omega))).trans (b5.mono (by omega)))
set_option maxHeartbeats 4000000 in
theorem s_l04Bits (t m r s v : Nat) (w : World) (ht : t < 65536) (hm : m < 16) (hr : r < 16) (hs : s < 256) (hv : v < 4294967296) :
    Calls Try.prog 92 #[.agg #[.int .i64 t, .int .i64 m, .int .i64 r, .int .i64 s, .int .i64 v]] w fun e w' => ∃ u, e = .returned u ∧ IOwn w' w.heap.size u (stBits t m r s v) ∧ Below w.heap.size w w' := by
  have bA := (Below.refl w.heap.size w).alloc (Nat.le_refl _) (.cells #[.int .i64 t, .int .i64 m, .int .i64 r, .int .i64 s, .int .i64 v] 45)
  have R := heap_alloc_new w (.cells #[.int .i64 t, .int .i64 m, .int .i64 r, .int .i64 s, .int .i64 v] 45)
  have zA : w.heap.size + 1 ≤ (w.alloc (.cells #[.int .i64 t, .int .i64 m, .int .i64 r, .int .i64 s, .int .i64 v] 45)).heap.size := by simp
  go_enter Try.func92, Try.ntmps92
  go_wp2_with fail
  generalize hg : w.heap.size = g at *
  generalize w.alloc _ = W at *
  obtain ⟨d0, d1, d2, d3, d4⟩ := cells5 R
  go_region_held3 (fun w' => w'.cell? ⟨g, 0, none⟩ = some (.int .i64 t) ∧ w'.cell? ⟨g, 1, none⟩ = some (.int .i64 m) ∧ w'.cell? ⟨g, 2, none⟩ = some (.int .i64 r) ∧ w'.cell? ⟨g, 3, none⟩ = some (.int .i64 s) ∧ w'.cell? ⟨g, 4, none⟩ = some (.int .i64 v)) (go_keep) (first
    | (go_at_call 112; refine (s_l01Append m 4 _ _ _ _ _ _ i1 (Nat.le_refl _) (by omega) (by omega) (by simp [bitsN_len])).mono ?_; rintro e w2 ⟨v2, rfl, o2, b2⟩; have z2 := b2.size; have R2 := (b2.block g (by omega)).trans R1; obtain ⟨h0, h1, h2, h3, h4⟩ := cells5 R2)
    | (go_at_call 112; refine (s_l01Append t 16 _ _ _ [] 0 _ (IntsAt.nil _ _ _ _ (by unfold maxLen; omega)) (Nat.zero_le _) (by omega) (by omega) (by omega)).mono ?_; rintro e w1 ⟨v1, rfl, o1, b1⟩; obtain ⟨A1, c1, rfl, i1⟩ := o1.ints (by simp [bitsN_len]); have z1 : W.heap.size ≤ w1.heap.size := b1.size; have R1 := (b1.block g (show g < W.heap.size by omega)).trans R; obtain ⟨h0, h1, h2, h3, h4⟩ := cells5 R1))
  obtain ⟨A2, c2, rfl, i2⟩ := o2.ints (by simp [bitsN_len])
  go_wp2_with fail
  go_region_held3 (fun w' => w'.cell? ⟨g, 0, none⟩ = some (.int .i64 t) ∧ w'.cell? ⟨g, 1, none⟩ = some (.int .i64 m) ∧ w'.cell? ⟨g, 2, none⟩ = some (.int .i64 r) ∧ w'.cell? ⟨g, 3, none⟩ = some (.int .i64 s) ∧ w'.cell? ⟨g, 4, none⟩ = some (.int .i64 v)) (go_keep) (first
    | (go_at_call 112; refine (s_l01Append v 32 _ _ _ _ _ _ i4 (Nat.le_refl _) (by omega) (by omega) (by simp [bitsN_len])).mono ?_; rintro e w5 ⟨v5, rfl, o5, b5⟩; have z5 := b5.size; have R5 := (b5.block g (by omega)).trans R4; obtain ⟨h0, h1, h2, h3, h4⟩ := cells5 R5)
    | (go_at_call 112; refine (s_l01Append s 8 _ _ _ _ _ _ i3 (Nat.le_refl _) (by omega) (by omega) (by simp [bitsN_len])).mono ?_; rintro e w4 ⟨v4, rfl, o4, b4⟩; obtain ⟨A4, c4, rfl, i4⟩ := o4.ints (by simp [bitsN_len]); have z4 := b4.size; have R4 := (b4.block g (by omega)).trans R3; obtain ⟨h0, h1, h2, h3, h4⟩ := cells5 R4)
    | (go_at_call 112; refine (s_l01Append r 4 _ _ _ _ _ _ i2.drew (Nat.le_refl _) (by omega) (by omega) (by simp [bitsN_len])).mono ?_; rintro e w3 ⟨v3, rfl, o3, b3⟩; obtain ⟨A3, c3, rfl, i3⟩ := o3.ints (by simp [bitsN_len]); have z3 : w2.heap.size ≤ w3.heap.size := b3.size; have R3 := (b3.block g (show g < w2.heap.size by omega)).trans R2; obtain ⟨h0, h1, h2, h3, h4⟩ := cells5 R3))
  go_wp2
  go_ret
  refine ⟨_, rfl, ?_, ?_⟩
  · have := o5.less (base' := w.heap.size) (by omega)
    simpa [stBits] using this
  · rw [hg]
    have B1 : Below g W.drew w1 := b1.mono (show g ≤ W.heap.size by omega)
    have B3 : Below g w2.drew w3 := b3.mono (show g ≤ w2.heap.size by omega)
    exact (((((bA.drew.trans B1).trans (b2.mono (by omega))).drew.trans B3).trans (b4.mono (by omega))).trans (b5.mono (by omega)))
end Go.Proofs.Ytecelofoffdjlaa

/- Contracts of FrameBody, of the program and of the reference. -/
import Derived.Test.YtpcdachkmekjgaaBodyI
import Derived.Test.YtpcdachkmekjgaaBodyS
import Derived.Test.YtpcdachkmekjgaaFrmI
import Derived.Test.YtpcdachkmekjgaaFrmS
namespace Go.Proofs.Ytpcdachkmekjgaa
open Go.RowKit
set_option linter.unusedSimpArgs false
set_option linter.unusedVariables false
def fbC (b : Bool) : Int := if b then 0 else 1
theorem i_FrameBody (k q t m r s v : Int) (A : Option Addr) (n c : Nat) (xs : List Int) (B : Nat) (w : World) (h : IntsAt w B A n c xs) (hB : B ≤ w.heap.size) :
    Calls Try.prog 17 #[.agg #[.int .i64 k, .int .i64 q, .int .i64 t, .int .i64 m, .int .i64 r, .int .i64 s, .int .i64 v, .slice A n c]] w fun e w' => ∃ u, e = .returned (.tuple #[u, .int .i64 (fbC (frOk k q t m r s v xs))]) ∧ IOwn w' w.heap.size u (if frOk k q t m r s v xs then bodyL k q t m r s v xs else []) ∧ Below w.heap.size w w' := by
  have hI := h.alloc hB (.cells #[.int .i64 k, .int .i64 q, .int .i64 t, .int .i64 m, .int .i64 r, .int .i64 s, .int .i64 v, .slice A n c] 32)
  have B0 := (Below.refl w.heap.size w).alloc (Nat.le_refl _) (.cells #[.int .i64 k, .int .i64 q, .int .i64 t, .int .i64 m, .int .i64 r, .int .i64 s, .int .i64 v, .slice A n c] 32)
  have R := heap_alloc_new w (.cells #[.int .i64 k, .int .i64 q, .int .i64 t, .int .i64 m, .int .i64 r, .int .i64 s, .int .i64 v, .slice A n c] 32)
  have z0 : w.heap.size + 1 = (w.alloc (.cells #[.int .i64 k, .int .i64 q, .int .i64 t, .int .i64 m, .int .i64 r, .int .i64 s, .int .i64 v, .slice A n c] 32)).heap.size := by simp
  clear h
  obtain ⟨c0, c1, c2, c3, c4, c5, c6, c7⟩ := fr_cells R
  generalize hW : w.alloc _ = W at *
  have C1 := i_IsFrame k q t m r s v A n c xs B W hI (by omega)
  cases hf : frOk k q t m r s v xs
  · rw [hf] at C1
    go_enter Try.func17, Try.ntmps17
    go_upto_region 1 with fail
    try rw [hW]
    go_wp2_with (first | (go_at_call 39; refine C1.mono ?_; rintro e w1 ⟨rfl, b1⟩))
    go_ret2
    exact ⟨_, rfl, IOwn.nil _ _, B0.trans (b1.mono (by omega))⟩
  · rw [hf] at C1
    go_enter Try.func17, Try.ntmps17
    go_upto_region 1 with fail
    try rw [hW]
    go_wp2_with (first
      | (go_at_call 39; refine C1.mono ?_; rintro e w1 ⟨rfl, b1⟩; have z1 := b1.size; have R1 := (b1.block w.heap.size (by omega)).trans R; obtain ⟨c0, c1, c2, c3, c4, c5, c6, c7⟩ := fr_cells R1; have I1 := hI.below' (by omega) b1)
      | (go_at_call 54; refine (i_body k q t m r s v A n c xs B _ I1 (by omega) hf).mono ?_; rintro e w2 ⟨u, rfl, o2, b2⟩))
    go_ret2
    exact ⟨_, rfl, o2.less (by omega), (B0.trans (b1.mono (by omega))).trans (b2.mono (by omega))⟩
theorem s_FrameBody (k q t m r s v : Int) (A : Option Addr) (n c : Nat) (xs : List Int) (B : Nat) (w : World) (h : IntsAt w B A n c xs) (hB : B ≤ w.heap.size) :
    Calls Try.prog 15 #[.agg #[.int .i64 k, .int .i64 q, .int .i64 t, .int .i64 m, .int .i64 r, .int .i64 s, .int .i64 v, .slice A n c]] w fun e w' => ∃ u, e = .returned (.tuple #[u, .int .i64 (fbC (frOk k q t m r s v xs))]) ∧ IOwn w' w.heap.size u (if frOk k q t m r s v xs then bodyL k q t m r s v xs else []) ∧ Below w.heap.size w w' := by
  have hI := h.alloc hB (.cells #[.int .i64 k, .int .i64 q, .int .i64 t, .int .i64 m, .int .i64 r, .int .i64 s, .int .i64 v, .slice A n c] 32)
  have B0 := (Below.refl w.heap.size w).alloc (Nat.le_refl _) (.cells #[.int .i64 k, .int .i64 q, .int .i64 t, .int .i64 m, .int .i64 r, .int .i64 s, .int .i64 v, .slice A n c] 32)
  have R := heap_alloc_new w (.cells #[.int .i64 k, .int .i64 q, .int .i64 t, .int .i64 m, .int .i64 r, .int .i64 s, .int .i64 v, .slice A n c] 32)
  have z0 : w.heap.size + 1 = (w.alloc (.cells #[.int .i64 k, .int .i64 q, .int .i64 t, .int .i64 m, .int .i64 r, .int .i64 s, .int .i64 v, .slice A n c] 32)).heap.size := by simp
  clear h
  obtain ⟨c0, c1, c2, c3, c4, c5, c6, c7⟩ := fr_cells R
  generalize hW : w.alloc _ = W at *
  have C1 := s_IsFrame k q t m r s v A n c xs B W hI (by omega)
  cases hf : frOk k q t m r s v xs
  · rw [hf] at C1
    go_enter Try.func15, Try.ntmps15
    go_upto_region 1 with fail
    try rw [hW]
    go_wp2_with (first | (go_at_call 40; refine C1.mono ?_; rintro e w1 ⟨rfl, b1⟩))
    go_ret2
    exact ⟨_, rfl, IOwn.nil _ _, B0.trans (b1.mono (by omega))⟩
  · rw [hf] at C1
    go_enter Try.func15, Try.ntmps15
    go_upto_region 1 with fail
    try rw [hW]
    go_wp2_with (first
      | (go_at_call 40; refine C1.mono ?_; rintro e w1 ⟨rfl, b1⟩; have z1 := b1.size; have R1 := (b1.block w.heap.size (by omega)).trans R; obtain ⟨c0, c1, c2, c3, c4, c5, c6, c7⟩ := fr_cells R1; have I1 := hI.below' (by omega) b1)
      | (go_at_call 53; refine (s_body k q t m r s v A n c xs B _ I1 (by omega) hf).mono ?_; rintro e w2 ⟨u, rfl, o2, b2⟩))
    go_ret2
    exact ⟨_, rfl, o2.less (by omega), (B0.trans (b1.mono (by omega))).trans (b2.mono (by omega))⟩
end Go.Proofs.Ytpcdachkmekjgaa

/- Contracts of markFrame and heldFrame. -/
import Derived.Test.YtpcdachkmekjgaaFrmH
namespace Go.Proofs.Ytpcdachkmekjgaa
open Go.RowKit
set_option linter.unusedSimpArgs false
set_option linter.unusedVariables false
theorem own_ne_frame {w : World} {base g : Nat} {v : Value} {xs : List Int} {c : Array Value} (h : IOwn w base v xs) (hg : w.heap[g]? = some (.cells c 32 (0, 0))) : v.ownBlock ≠ some g := by
  rcases h.2 with ⟨rfl, _⟩ | ⟨k, cap, cur, rfl, _, hk, _⟩
  · simp [Value.ownBlock]
  · intro e
    have e' : k = g := by simpa [Value.ownBlock] using e
    subst e'
    rw [hk] at hg
    injection hg with hg
    injection hg with _ ht
    exact absurd ht (by decide)
theorem h_markFrame (k q t m r s v : Int) (A : Option Addr) (n c : Nat) (xs : List Int) (base : Nat) (x : Int) (w : World) (ho : IOwn w base (.slice A n c) xs) (hm0 : 0 ≤ x) (hm1 : x ≤ 4294967296) (hxl : xs.length ≤ 16777216) :
    Calls Try.prog 20 #[.agg #[.int .i64 k, .int .i64 q, .int .i64 t, .int .i64 m, .int .i64 r, .int .i64 s, .int .i64 v, .slice A n c], .int .i64 x] w fun e w' => e = .returned (.int .i64 (x + xs.length)) ∧ IOwn w' base (.slice A n c) (marksL xs.length x) ∧ w.grownBy w' (Value.slice A n c).ownBlock := by
  go_enter Try.func20, Try.ntmps20
  go_wp2_with fail
  refine (h_markInt64S _ _ _ x _ (ho.alloc _) hm0 hm1 hxl).mono ?_
  rintro e w1 ⟨rfl, ho1, hg1⟩
  go_wp2
  go_ret
  exact ⟨rfl, ho1, grown_trans' (grown_alloc (World.grownBy.refl _ _) _) hg1 (.inl rfl)⟩
theorem h_heldFrame (k q t m r s v : Int) (A : Option Addr) (n c : Nat) (B : Nat) (x : Int) (w : World) (h : IntsAt w B A n c (marksL n x)) (hB : B ≤ w.heap.size) (hm0 : 0 ≤ x) (hm1 : x ≤ 4294967296) :
    Calls Try.prog 26 #[.agg #[.int .i64 k, .int .i64 q, .int .i64 t, .int .i64 m, .int .i64 r, .int .i64 s, .int .i64 v, .slice A n c], .int .i64 x] w fun e w' => e = .returned (.int .i64 (x + n)) ∧ Below w.heap.size w w' := by
  have hn := h.small
  go_enter Try.func26, Try.ntmps26
  go_wp2_with fail
  refine (h_heldInt64S _ _ _ _ x _ (h.alloc hB _) hm0 hm1).mono ?_
  rintro e w1 ⟨rfl, rfl⟩
  go_wp2
  go_ret
  exact ⟨rfl, (Below.refl _ _).alloc (Nat.le_refl _) _⟩
end Go.Proofs.Ytpcdachkmekjgaa

/- Contracts of the smallest functions: a number in a range. -/
import Derived.Test.YtgenfffgenddmaaDoorBase
import Derived.Outline
import Derived.BigQuiet
import Derived.Lib.Hide
import Derived.WalkLawsBesides
namespace Go.Proofs.YtgenfffgenddmaaDoor
open Go.RowKit
set_option linter.unusedSimpArgs false
set_option linter.unusedVariables false
theorem quiet_l {P : Program} {f : FuncId} {args : Array Value} {w : World} {n : Nat} {v : Value}
    (h : Calls P f args (w.drewN n) fun e w' => e = .returned v ∧ w.drewN n = w') : Calls P f args (w.drewN n) fun e w'' => e = .returned v ∧ ∃ m, w'' = w.drewN m :=
  h.mono fun _ _ ⟨he, hm⟩ => ⟨he, n, hm.symm⟩
theorem quiet_add_l {P : Program} {f : FuncId} {args : Array Value} {w : World} {a n : Nat} {v : Value}
    (h : Calls P f args (w.drewN (a + n)) fun e w' => e = .returned v ∧ w.drewN (a + n) = w') :
    Calls P f args (w.drewN (a + n)) fun e w'' => e = .returned v ∧ ∃ m, w'' = w.drewN (a + m) :=
  h.mono fun _ _ ⟨he, hm⟩ => ⟨he, n, hm.symm⟩
theorem i_within_yes (a lo hi : Int) (w : World) (h1 : lo ≤ a) (h2 : a ≤ hi) :
    Calls Tryd.prog 56 #[.int .i64 a, .int .i64 lo, .int .i64 hi] w fun e w' => e = .returned (.bool true) ∧ w = w' := by
  go_enter Tryd.func56, Tryd.ntmps56
  go_wp2
  go_ret
  exact ⟨by simp [h1, h2], rfl⟩
theorem i_within_no (a lo hi : Int) (w : World) (h : a < lo ∨ hi < a) :
    Calls Tryd.prog 56 #[.int .i64 a, .int .i64 lo, .int .i64 hi] w fun e w' => e = .returned (.bool false) ∧ w = w' := by
  by_cases h1 : a < lo
  · clear h
    go_enter Tryd.func56, Tryd.ntmps56
    go_wp2
    go_ret
    exact ⟨rfl, rfl⟩
  · have h2 : hi < a := by omega
    have h3 : lo ≤ a := by omega
    clear h h1
    go_enter Tryd.func56, Tryd.ntmps56
    go_wp2
    go_ret
    exact ⟨by simp; omega, rfl⟩
theorem s_l01In_yes (a lo hi : Int) (w : World) (h1 : lo ≤ a) (h2 : a ≤ hi) :
    Calls Tryd.prog 53 #[.int .i64 a, .int .i64 lo, .int .i64 hi] w fun e w' => e = .returned (.bool true) ∧ w = w' := by
  go_enter Tryd.func53, Tryd.ntmps53
  go_wp2
  go_ret
  exact ⟨by simp [h1, h2], rfl⟩
theorem s_l01In_no (a lo hi : Int) (w : World) (h : a < lo ∨ hi < a) :
    Calls Tryd.prog 53 #[.int .i64 a, .int .i64 lo, .int .i64 hi] w fun e w' => e = .returned (.bool false) ∧ w = w' := by
  by_cases h1 : a < lo
  · clear h
    go_enter Tryd.func53, Tryd.ntmps53
    go_wp2
    go_ret
    exact ⟨rfl, rfl⟩
  · have h2 : hi < a := by omega
    have h3 : lo ≤ a := by omega
    clear h h1
    go_enter Tryd.func53, Tryd.ntmps53
    go_wp2
    go_ret
    exact ⟨by simp; omega, rfl⟩
end Go.Proofs.YtgenfffgenddmaaDoor

/- What OpenFrame says of a list. -/
import Derived.Test.YtpcdachkmekjgaaSeal2
import Derived.Test.YtpcdachkmekjgaaFFN
namespace Go.Proofs.Ytpcdachkmekjgaa
open Go.RowKit
set_option linter.unusedSimpArgs false
set_option linter.unusedVariables false
/-- Whether a state is the one of a body. -/
def stSame (xs : List Int) (T M R S V : Int) : Bool := decide (stF xs 0 16 = T ∧ stF xs 16 4 = M ∧ stF xs 20 4 = R ∧ stF xs 24 8 = S ∧ stF xs 32 32 = V)
/-- The code behind the check number. -/
def ofB (ys : List Int) (T M R S V : Int) : Int := if fbOk ys then (if hdK ys = 0 ∨ stSame ys T M R S V = true then 0 else 5) else 6
/-- The code of OpenFrame. -/
def ofC (xs : List Int) (id T M R S V : Int) : Int :=
  if stOk T M R S V then (if idOk id && bytesOk xs then (if xs.length < 4 then 6 else if eqL (three (chkN (hdK xs) (xs.take (xs.length - 3)) id.toNat T M R S V)) (xs.drop (xs.length - 3)) then ofB (xs.take (xs.length - 3)) T M R S V else 7) else 2) else 1
def ofV (C : Int) (v : Int) : Int := if C = 0 then v else 0
def OFQ (w : World) (C : Int) (ys : List Int) (e : Ending) (w' : World) : Prop :=
  ∃ sl, e = .returned (.tuple #[.agg #[.int .i64 (ofV C (hdK ys)), .int .i64 (ofV C (hdQ ys)), .int .i64 (ofV C (stF ys 0 16)), .int .i64 (ofV C (stF ys 16 4)), .int .i64 (ofV C (stF ys 20 4)), .int .i64 (ofV C (stF ys 24 8)), .int .i64 (ofV C (stF ys 32 32)), sl], .int .i64 C]) ∧ IOwn w' w.heap.size sl (if C = 0 then hdD ys else []) ∧ Below w.heap.size w w'
theorem bytesOk_of {xs : List Int} (hl : xs.length ≤ 1024) (h : ∀ x ∈ xs, 0 ≤ x ∧ x ≤ 255) : bytesOk xs = true := by
  simp only [bytesOk, Bool.and_eq_true, decide_eq_true_eq]
  exact ⟨hl, (allIn_iff xs 0 255).2 fun k hk => getD_of_mem h k hk⟩
end Go.Proofs.Ytpcdachkmekjgaa

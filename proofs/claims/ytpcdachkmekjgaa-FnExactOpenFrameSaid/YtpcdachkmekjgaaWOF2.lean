/- The walk of the law on OpenFrame. -/
import Derived.Test.YtpcdachkmekjgaaWOF
import Derived.Test.YtpcdachkmekjgaaOFT
namespace Go.Proofs.Ytpcdachkmekjgaa
open Go.RowKit
set_option linter.unusedVariables false
theorem of_len (xs : List Int) (id T M R S V : Int) : (if ofC xs id T M R S V = 0 then hdD (xs.take (xs.length - 3)) else []).length ≤ 1100 := by
  split
  · rename_i h
    have hb : bytesOk xs = true := by
      cases hb : bytesOk xs
      · cases hs : stOk T M R S V <;> simp [ofC, hs, hb] at h
      · rfl
    have := bytesOk_len hb
    unfold hdD
    split
    · simp; omega
    · split
      · simp; omega
      · simp
  · simp
theorem w_OpenFrame (A : Option Addr) (n c : Nat) (xs : List Int) (id T M R S V : Int) (w : World) (w0 : ArgInts w A n c xs) (q0 : (Lit.int .i64 id).wf = true) (q1 : (Lit.int .i64 T).wf = true) (q2 : (Lit.int .i64 M).wf = true) (q3 : (Lit.int .i64 R).wf = true) (q4 : (Lit.int .i64 S).wf = true) (q5 : (Lit.int .i64 V).wf = true) :
    Calls Try.prog 8 #[.slice A n c, .int .i64 id, .agg #[.int .i64 T, .int .i64 M, .int .i64 R, .int .i64 S, .int .i64 V]] w fun e w' => e = .returned (.bool true) ∧ Below w.heap.size w w' :=
  w_OpenFrame_ A n c xs id T M R S V (ofC xs id T M R S V) _ _ _ _ _ _ _ (if ofC xs id T M R S V = 0 then hdD (xs.take (xs.length - 3)) else []) (of_len xs id T M R S V) (fun A n c B W h hB => s_OpenFrame A n c xs id T M R S V B W h hB) (fun A n c B W h hB => i_OpenFrame A n c xs id T M R S V B W h hB) w w0
end Go.Proofs.Ytpcdachkmekjgaa

/- The walk of the law on FrameFromBody. -/
import Derived.Test.YtpcdachkmekjgaaWFFB
import Derived.Test.YtpcdachkmekjgaaFFT
import Derived.Test.YtpcdachkmekjgaaFFU
namespace Go.Proofs.Ytpcdachkmekjgaa
open Go.RowKit
set_option linter.unusedVariables false
theorem ff_len (xs : List Int) : (if ffC xs = 0 then hdD xs else []).length ≤ 1100 := by
  split
  · rename_i h
    have hb : bytesOk xs = true := by
      cases hb : bytesOk xs
      · simp [ffC, hb] at h
      · rfl
    have := bytesOk_len hb
    unfold hdD
    split
    · simp; omega
    · split
      · simp; omega
      · simp
  · simp
theorem w_FrameFromBody (A : Option Addr) (n c : Nat) (xs : List Int) (w : World) (w0 : ArgInts w A n c xs) :
    Calls Try.prog 4 #[.slice A n c] w fun e w' => e = .returned (.bool true) ∧ Below w.heap.size w w' :=
  w_FrameFromBody_ A n c xs (ffC xs) _ _ _ _ _ _ _ (if ffC xs = 0 then hdD xs else []) (ff_len xs) (fun A n c B W h hB => s_FrameFromBody A n c xs B W h hB) (fun A n c B W h hB => i_FrameFromBody A n c xs B W h hB) w w0
end Go.Proofs.Ytpcdachkmekjgaa

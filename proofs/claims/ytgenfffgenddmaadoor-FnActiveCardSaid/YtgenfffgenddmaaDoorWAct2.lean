/- The law on active nodes, with its draw. -/
import Derived.Test.YtgenfffgenddmaaDoorWAct
import Derived.Test.YtgenfffgenddmaaDoorDn7
namespace Go.Proofs.YtgenfffgenddmaaDoor
open Go.RowKit
theorem w_FnActive (a0 : Option Addr) (len0 cap0 : Nat) (z0 : List Int) (w : World) (w0 : ArgBytes w a0 len0 cap0 z0) :
    Calls Tryd.prog 11 #[.slice a0 len0 cap0] w fun e w' => e = .returned (.bool true) ∧ Below w.heap.size w w' :=
  w_FnActive_ (fun A n c bs B w h hB => s_DrawWorstDrift A n c bs B w h hB) a0 len0 cap0 z0 w w0
end Go.Proofs.YtgenfffgenddmaaDoor

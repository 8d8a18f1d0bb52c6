/- The program's cursor: begins. -/
import Derived.Test.YtgenfffgenddmaaDoorCur
namespace Go.Proofs.YtgenfffgenddmaaDoor
open Go.RowKit
set_option linter.unusedSimpArgs false
set_option linter.unusedVariables false
def BgPost (b : Bool) (w : World) (e : Ending) (w' : World) : Prop := e = .returned (.bool b) ∧ ∃ m, w' = w.drewN m
set_option maxRecDepth 100000 in
theorem i_begins (g : Nat) (A A' : Option Addr) (n c p n' c' : Nat) (past : Bool) (xs ys : List Int) (B B' : Nat) (w : World) (h : CurAt w g A n c p past) (hI : IntsAt w B A n c xs) (hJ : IntsAt w B' A' n' c' ys) (hp : p ≤ n) :
    Calls Tryd.prog 77 #[.pointer (some ⟨g, 0, none⟩), .slice A' n' c'] w (BgPost (!past && eqL (xs.take p) ys) w) := by
  have hn := hI.small
  have hnc := hI.2.1
  obtain ⟨⟨c0, c1, c2⟩, f1, f2⟩ := cur_cells h
  cases past
  · have HE := Lib.hid (fun k => l_Equal A A' p c n' c' (xs.take p) ys B B' (w.drewN k) ((hI.cutTo p hp).drewN k) (hJ.drewN k))
    have hpc : (p : Int) ≤ (c : Int) := by omega
    have b0 : (0 : Int) ≤ (p : Int) := by omega
    generalize eqL (xs.take p) ys = b at *
    clear hI hJ h
    go_enter Tryd.func77, Tryd.ntmps77
    go_upto_region 1 with fail
    go_quiet ((exact Calls.quiet_of (HE.out _)))
    go_wp2
    go_ret
    exact ⟨rfl, _, rfl⟩
  · clear hI hJ h
    go_enter Tryd.func77, Tryd.ntmps77
    go_upto_region 1 with fail
    go_quiet (fail)
    go_wp2
    go_ret
    exact ⟨rfl, _, rfl⟩
end Go.Proofs.YtgenfffgenddmaaDoor

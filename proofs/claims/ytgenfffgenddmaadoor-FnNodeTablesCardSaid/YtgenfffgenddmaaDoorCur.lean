/- The program's cursor over a list of bytes: next. -/
import Derived.Test.YtgenfffgenddmaaDoorNod13
import Derived.Test.YtgenfffgenddmaaDoorByt
import Derived.Test.YtgenfffgenddmaaDoorDraw
namespace Go.Proofs.YtgenfffgenddmaaDoor
open Go.RowKit
set_option linter.unusedSimpArgs false
set_option linter.unusedVariables false
theorem Below.ltA {w : World} {a : Addr} {v : Value} (h : w.cell? a = some v) : a.block < w.heap.size := cell_lt h
/-- Block g is a cursor over the bytes at place p; past: it has been asked behind the end. -/
def CurAt (W : World) (g : Nat) (A : Option Addr) (n c p : Nat) (past : Bool) : Prop := W.heap[g]? = some (.cells #[.slice A n c, .int .i64 p, .bool past] 82 (0, 0))
theorem cur_cells {W : World} {g n c p : Nat} {A : Option Addr} {past : Bool} (h : CurAt W g A n c p past) : (W.cell? ⟨g, 0, none⟩ = some (.slice A n c) ∧ W.cell? ⟨g, 1, none⟩ = some (.int .i64 p) ∧ W.cell? ⟨g, 2, none⟩ = some (.bool past)) ∧ (W.frozen? ⟨g, 1, none⟩ = false ∧ W.frozen? ⟨g, 2, none⟩ = false) := by
  unfold CurAt at h
  simp [World.cell?, World.frozen?, h]
def nxV (xs : List Int) (p : Nat) : Int := if p < xs.length then xs.getD p 0 else 0
def NxPost (g : Nat) (A : Option Addr) (n c p : Nat) (past : Bool) (xs : List Int) (w : World) (e : Ending) (w' : World) : Prop :=
  e = .returned (.int .i64 (nxV xs p)) ∧ CurAt w' g A n c (if p < n then p + 1 else p) (past || decide (p = n)) ∧ w.grownBy w' (some g)
set_option maxRecDepth 100000 in
theorem i_next (g : Nat) (A : Option Addr) (n c p : Nat) (past : Bool) (xs : List Int) (B : Nat) (w : World) (h : CurAt w g A n c p past) (hI : IntsAt w B A n c xs) (hBg : B ≤ g) (hp : p ≤ n) :
    Calls Tryd.prog 75 #[.pointer (some ⟨g, 0, none⟩)] w (NxPost g A n c p past xs w) := by
  have hn := hI.small
  have hl := hI.len
  obtain ⟨⟨c0, c1, c2⟩, f1, f2⟩ := cur_cells h
  by_cases he : p = n
  · subst he
    have hq : ((p : Int) == (p : Int)) = true := by simp
    have HX := Lib.hid (show nxV xs p = 0 by unfold nxV; rw [if_neg (by omega)])
    have HC := Lib.hid h
    clear hI
    go_enter Tryd.func75, Tryd.ntmps75
    go_upto_region 1 with fail
    go_quiet (fail)
    go_wp2
    go_ret
    refine ⟨by rw [HX.out]; rfl, ?_, grown_set (p := ⟨g, 2, none⟩) (grown_drewN (World.grownBy.refl w (some g)) nq) (.inl rfl) _⟩
    unfold CurAt
    rw [if_neg (by omega)]
    simp only [decide_true, Bool.or_true]
    exact one_set3 (w.drewN nq) g _ _ _ _ _ HC.out
  · have hlt : p < n := by omega
    have hq : ((p : Int) == (n : Int)) = false := by simp; omega
    obtain ⟨ad, rfl, hab, hx⟩ := hI.at_ p hlt
    have HX := Lib.hid (show nxV xs p = xs.getD p 0 by unfold nxV; rw [if_pos (by omega)])
    have HC := Lib.hid h
    have hw1 : IntKind.i64.wrap ((p : Int) + 1) = (p : Int) + 1 := IntWalk.i64_in _ (by omega)
    have hne : (ad.add p).block ≠ g := by rw [block_add]; omega
    generalize xs.getD p 0 = x at *
    clear hI
    go_enter Tryd.func75, Tryd.ntmps75
    go_upto_region 1 with fail
    go_quiet (fail)
    go_upto_region 5 with fail
    have R := one_set3b (w.drewN nq) g _ _ _ _ (.int .i64 ((p : Int) + 1)) HC.out
    have G := grown_set (p := ⟨g, 1, none⟩) (grown_drewN (World.grownBy.refl w (some g)) nq) (.inl rfl) (.int .i64 ((p : Int) + 1))
    have X : ((w.drewN nq).setCell ⟨g, 1, none⟩ (.int .i64 ((p : Int) + 1))).cell? (ad.add p) = some (.int .i64 x) := by
      rw [G.cell_far _ (Below.ltA hx) (by intro e; injection e with e; exact hne e)]; exact hx
    generalize World.setCell _ _ _ = W at *
    have hC : CurAt W g (some ad) n c (p + 1) past := R
    obtain ⟨⟨d0, d1, d2⟩, k1, k2⟩ := cur_cells hC
    have HR := Lib.hid hC
    have b0 : (0 : Int) ≤ (p : Int) := by omega
    have b1 : (p : Int) < (n : Int) := by omega
    have hw2 : IntKind.i64.wrap ((p : Int) + 1 - 1) = (p : Int) := by rw [IntWalk.i64_in _ (by omega)]; omega
    clear c0 c1 c2 f1 f2 h R hC
    go_quiet (fail)
    go_wp2
    go_ret
    refine ⟨by rw [HX.out]; rfl, ?_, grown_drewN G _⟩
    rw [if_pos hlt, show decide (p = n) = false by simp; omega, Bool.or_false]
    exact HR.out
end Go.Proofs.YtgenfffgenddmaaDoor

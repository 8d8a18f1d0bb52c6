/- Contracts: the state out of its bits. -/
import Derived.Test.YtpcdachkmekjgaaByts2
import Derived.Test.YtpcdachkmekjgaaBits4
import Derived.Test.YtpcdachkmekjgaaFrmH
import Derived.Deep.RegionHeld3
import Derived.BigRegion
namespace Go.Proofs.Ytpcdachkmekjgaa
open Go.RowKit
set_option linter.unusedSimpArgs false
set_option linter.unusedVariables false
theorem five_heap5 {w : World} {g : Nat} {u0 u1 u2 u3 u4 v0 v1 v2 v3 v4 : Value} {t : TypeId} (h : w.heap[g]? = some (.cells #[u0, u1, u2, u3, u4] t (0, 0))) :
    (((((w.setCell ⟨g, 0, none⟩ v0).setCell ⟨g, 1, none⟩ v1).setCell ⟨g, 2, none⟩ v2).setCell ⟨g, 3, none⟩ v3).setCell ⟨g, 4, none⟩ v4).heap[g]? = some (.cells #[v0, v1, v2, v3, v4] t (0, 0)) := by
  simpa using heap_setCell_same _ g 4 _ _ v4 (heap_setCell_same _ g 3 _ _ v3 (heap_setCell_same _ g 2 _ _ v2 (heap_setCell_same _ g 1 _ _ v1 (heap_setCell_same _ g 0 _ _ v0 h))))
theorem below_five5 {B : Nat} {a w : World} (h : Below B a w) {g : Nat} (hg : B ≤ g) {v0 v1 v2 v3 v4 : Value} :
    Below B a (((((w.setCell ⟨g, 0, none⟩ v0).setCell ⟨g, 1, none⟩ v1).setCell ⟨g, 2, none⟩ v2).setCell ⟨g, 3, none⟩ v3).setCell ⟨g, 4, none⟩ v4) :=
  ((((h.setCell hg _).setCell hg _).setCell hg _).setCell hg _).setCell hg _
/-- A part of some bits, as a number. -/
def partN (xs : List Int) (a m : Nat) : Nat := numL ((xs.drop a).take m)
set_option maxHeartbeats 2000000 in
theorem i_stateFrom (A : Option Addr) (n c : Nat) (xs : List Int) (B : Nat) (w : World) (h : IntsAt w B A n c xs) (hB : B ≤ w.heap.size) (hb : bit01 xs) (hn : n = 64) :
    Calls Try.prog 104 #[.slice A n c] w fun e w' => e = .returned (.agg #[.int .i64 (partN xs 0 16 : Nat), .int .i64 (partN xs 16 4 : Nat), .int .i64 (partN xs 20 4 : Nat), .int .i64 (partN xs 24 8 : Nat), .int .i64 (partN xs 32 32 : Nat)]) ∧ Below w.heap.size w w' := by
  subst hn
  obtain ⟨ad, rfl, hab, -⟩ := h.at_ 0 (by omega)
  have hle := h.le
  have hcm : c ≤ 9223372036854775807 := Nat.le_trans h.cap (by unfold maxLen; omega)
  have hI := h.alloc hB (.cells #[.int .i64 0, .int .i64 0, .int .i64 0, .int .i64 0, .int .i64 0] 30)
  have n1 := fun W (H : IntsAt W B (some ad) 64 c xs) => i_numberOf (some ad) 16 c (xs.take 16) B W (H.cutTo 16 (by omega)) (hb.take 16) (by omega)
  have cut := fun (W : World) (a m : Nat) (ha : a + m ≤ 64) (H : IntsAt W B (some ad) 64 c xs) (h0 : 0 < m) => (show IntsAt W B (some (ad.add a)) m (c - a) ((xs.drop a).take m) from by
    have := H.cut a (a + m) (by omega) ha
    rw [Nat.add_sub_cancel_left] at this
    rwa [if_neg (by omega)] at this)
  have n2 : ∀ W, IntsAt W B (some ad) 64 c xs → Calls Try.prog 116 #[.slice (some ⟨ad.block, ad.off + 16, none⟩) 4 (c - 16)] W fun e w' => e = .returned (.int .i64 (numL ((xs.drop 16).take 4) : Nat)) ∧ W = w' := fun W (H : IntsAt W B (some ad) 64 c xs) => i_numberOf (some (ad.add 16)) 4 (c - 16) ((xs.drop 16).take 4) B W (cut W 16 4 (by omega) H (by omega)) ((hb.drop _).take _) (by omega)
  have n3 : ∀ W, IntsAt W B (some ad) 64 c xs → Calls Try.prog 116 #[.slice (some ⟨ad.block, ad.off + 20, none⟩) 4 (c - 20)] W fun e w' => e = .returned (.int .i64 (numL ((xs.drop 20).take 4) : Nat)) ∧ W = w' := fun W (H : IntsAt W B (some ad) 64 c xs) => i_numberOf (some (ad.add 20)) 4 (c - 20) ((xs.drop 20).take 4) B W (cut W 20 4 (by omega) H (by omega)) ((hb.drop _).take _) (by omega)
  have n4 : ∀ W, IntsAt W B (some ad) 64 c xs → Calls Try.prog 116 #[.slice (some ⟨ad.block, ad.off + 24, none⟩) 8 (c - 24)] W fun e w' => e = .returned (.int .i64 (numL ((xs.drop 24).take 8) : Nat)) ∧ W = w' := fun W (H : IntsAt W B (some ad) 64 c xs) => i_numberOf (some (ad.add 24)) 8 (c - 24) ((xs.drop 24).take 8) B W (cut W 24 8 (by omega) H (by omega)) ((hb.drop _).take _) (by omega)
  have n5 : ∀ W, IntsAt W B (some ad) 64 c xs → Calls Try.prog 116 #[.slice (some ⟨ad.block, ad.off + 32, none⟩) 32 (c - 32)] W fun e w' => e = .returned (.int .i64 (numL ((xs.drop 32).take 32) : Nat)) ∧ W = w' := fun W (H : IntsAt W B (some ad) 64 c xs) => i_numberOf (some (ad.add 32)) 32 (c - 32) ((xs.drop 32).take 32) B W (cut W 32 32 (by omega) H (by omega)) ((hb.drop _).take _) (by omega)
  have N1 := Lib.hid n1; have N2 := Lib.hid n2; have N3 := Lib.hid n3; have N4 := Lib.hid n4; have N5 := Lib.hid n5
  clear n1 n2 n3 n4 n5 cut hb
  have R := heap_alloc_new w (.cells #[.int .i64 0, .int .i64 0, .int .i64 0, .int .i64 0, .int .i64 0] 30)
  have B0 := (Below.refl w.heap.size w).alloc (Nat.le_refl _) (.cells #[.int .i64 0, .int .i64 0, .int .i64 0, .int .i64 0, .int .i64 0] 30)
  go_enter Try.func104, Try.ntmps104
  go_upto_region 1 with fail
  generalize hg : w.heap.size = g at *
  generalize World.alloc _ _ = W at *
  have zz := Below.lt_of' R
  obtain ⟨c0, c1, c2, c3, c4⟩ := cells5 R
  have f0 := frozen_of_row _ _ 0 _ _ R
  have f1 := frozen_of_row _ _ 1 _ _ R
  have f2 := frozen_of_row _ _ 2 _ _ R
  have f3 := frozen_of_row _ _ 3 _ _ R
  have f4 := frozen_of_row _ _ 4 _ _ R
  have HI : IntsAt W.drew B (some ad) 64 c xs := hI.drew
  have e1 : (16 : Int) ≤ (c : Int) := by omega
  have e2 : (20 : Int) ≤ (c : Int) := by omega
  have e3 : (24 : Int) ≤ (c : Int) := by omega
  have e4 : (32 : Int) ≤ (c : Int) := by omega
  have e5 : (64 : Int) ≤ (c : Int) := by omega
  go_region_held3 (fun w' => True) (trivial) (first
    | (go_at_call 116; with_reducible refine (N1.out _ HI).mono ?_; rintro e w1 ⟨rfl, rfl⟩)
    | (go_at_call 116; with_reducible refine (N2.out _ HI).mono ?_; rintro e w1 ⟨rfl, rfl⟩)
    | (go_at_call 116; with_reducible refine (N3.out _ HI).mono ?_; rintro e w1 ⟨rfl, rfl⟩)
    | (go_at_call 116; with_reducible refine (N4.out _ HI).mono ?_; rintro e w1 ⟨rfl, rfl⟩)
    | (go_at_call 116; with_reducible refine (N5.out _ HI).mono ?_; rintro e w1 ⟨rfl, rfl⟩))
  have RR := five_heap5 (v0 := .int .i64 (numL (xs.take 16) : Nat)) (v1 := .int .i64 (numL ((xs.drop 16).take 4) : Nat)) (v2 := .int .i64 (numL ((xs.drop 20).take 4) : Nat)) (v3 := .int .i64 (numL ((xs.drop 24).take 8) : Nat)) (v4 := .int .i64 (numL ((xs.drop 32).take 32) : Nat)) R
  have BB := below_five5 (v0 := .int .i64 (numL (xs.take 16) : Nat)) (v1 := .int .i64 (numL ((xs.drop 16).take 4) : Nat)) (v2 := .int .i64 (numL ((xs.drop 20).take 4) : Nat)) (v3 := .int .i64 (numL ((xs.drop 24).take 8) : Nat)) (v4 := .int .i64 (numL ((xs.drop 32).take 32) : Nat)) B0 (Nat.le_refl g)
  clear c0 c1 c2 c3 c4 f0 f1 f2 f3 f4 R B0 N1 N2 N3 N4 N5 HI hI
  revert RR BB
  generalize World.setCell _ _ _ = Y
  intro RR BB
  obtain ⟨c0, c1, c2, c3, c4⟩ := cells5 RR
  go_wp2
  exact bodyPost_ret (v := .agg #[.int .i64 (numL (xs.take 16) : Nat), .int .i64 (numL ((xs.drop 16).take 4) : Nat), .int .i64 (numL ((xs.drop 20).take 4) : Nat), .int .i64 (numL ((xs.drop 24).take 8) : Nat), .int .i64 (numL ((xs.drop 32).take 32) : Nat)]) (by simp [results, Try.results104, go_sem, c0, c1, c2, c3, c4]) rfl ⟨rfl, by rw [hg]; exact BB.drew⟩
set_option maxHeartbeats 2000000 in
theorem s_l04State (A : Option Addr) (n c : Nat) (xs : List Int) (B : Nat) (w : World) (h : IntsAt w B A n c xs) (hB : B ≤ w.heap.size) (hb : bit01 xs) (hn : n = 64) :
    Calls Try.prog 99 #[.slice A n c] w fun e w' => e = .returned (.agg #[.int .i64 (partN xs 0 16 : Nat), .int .i64 (partN xs 16 4 : Nat), .int .i64 (partN xs 20 4 : Nat), .int .i64 (partN xs 24 8 : Nat), .int .i64 (partN xs 32 32 : Nat)]) ∧ Below w.heap.size w w' := by
  subst hn
  have hI := h.alloc hB (.cells #[.int .i64 0, .int .i64 0, .int .i64 0, .int .i64 0, .int .i64 0] 30)
  have n1 : ∀ W, IntsAt W B A 64 c xs → Calls Try.prog 117 #[.slice A 64 c, .int .i64 0, .int .i64 16] W fun e w' => e = .returned (.int .i64 (partN xs 0 16 : Nat)) ∧ W = w' := fun W H => s_l01Number' _ _ _ xs _ 0 16 _ _ _ H hb (by omega) (by omega) rfl rfl
  have n2 : ∀ W, IntsAt W B A 64 c xs → Calls Try.prog 117 #[.slice A 64 c, .int .i64 16, .int .i64 4] W fun e w' => e = .returned (.int .i64 (partN xs 16 4 : Nat)) ∧ W = w' := fun W H => s_l01Number' _ _ _ xs _ 16 4 _ _ _ H hb (by omega) (by omega) rfl rfl
  have n3 : ∀ W, IntsAt W B A 64 c xs → Calls Try.prog 117 #[.slice A 64 c, .int .i64 20, .int .i64 4] W fun e w' => e = .returned (.int .i64 (partN xs 20 4 : Nat)) ∧ W = w' := fun W H => s_l01Number' _ _ _ xs _ 20 4 _ _ _ H hb (by omega) (by omega) rfl rfl
  have n4 : ∀ W, IntsAt W B A 64 c xs → Calls Try.prog 117 #[.slice A 64 c, .int .i64 24, .int .i64 8] W fun e w' => e = .returned (.int .i64 (partN xs 24 8 : Nat)) ∧ W = w' := fun W H => s_l01Number' _ _ _ xs _ 24 8 _ _ _ H hb (by omega) (by omega) rfl rfl
  have n5 : ∀ W, IntsAt W B A 64 c xs → Calls Try.prog 117 #[.slice A 64 c, .int .i64 32, .int .i64 32] W fun e w' => e = .returned (.int .i64 (partN xs 32 32 : Nat)) ∧ W = w' := fun W H => s_l01Number' _ _ _ xs _ 32 32 _ _ _ H hb (by omega) (by omega) rfl rfl
  have N1 := Lib.hid n1; have N2 := Lib.hid n2; have N3 := Lib.hid n3; have N4 := Lib.hid n4; have N5 := Lib.hid n5
  clear n1 n2 n3 n4 n5 hb
  go_enter Try.func99, Try.ntmps99
  go_wp2_with (first
    | (go_at_call 117; with_reducible refine (N1.out _ hI).mono ?_; rintro e w1 ⟨rfl, rfl⟩)
    | (go_at_call 117; with_reducible refine (N2.out _ hI).mono ?_; rintro e w1 ⟨rfl, rfl⟩)
    | (go_at_call 117; with_reducible refine (N3.out _ hI).mono ?_; rintro e w1 ⟨rfl, rfl⟩)
    | (go_at_call 117; with_reducible refine (N4.out _ hI).mono ?_; rintro e w1 ⟨rfl, rfl⟩)
    | (go_at_call 117; with_reducible refine (N5.out _ hI).mono ?_; rintro e w1 ⟨rfl, rfl⟩))
  exact bodyPost_ret (v := .agg #[.int .i64 (partN xs 0 16 : Nat), .int .i64 (partN xs 16 4 : Nat), .int .i64 (partN xs 20 4 : Nat), .int .i64 (partN xs 24 8 : Nat), .int .i64 (partN xs 32 32 : Nat)]) (by simp [results, Try.results99, go_sem]) rfl ⟨rfl, (Below.refl _ _).alloc (Nat.le_refl _) _⟩
end Go.Proofs.Ytpcdachkmekjgaa

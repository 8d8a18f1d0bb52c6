/- The draws of descriptors. -/
import Derived.Test.YtecelofoffdjlaaDrawK
import Derived.Test.YtecelofoffdjlaaDesc4
import Derived.Deep.Cut
namespace Go.Proofs.Ytecelofoffdjlaa
open Go.RowKit
set_option linter.unusedSimpArgs false
set_option linter.unusedVariables false
theorem s_l06Data (k : Int) (w : World) : Calls Try.prog 104 #[.int .i64 k] w fun e w' => e = .returned (.bool (k == 0 || k == 2)) ∧ w = w' := by
  cases h0 : (k == 0)
  · cases h2 : (k == 2)
    all_goals
      go_enter Try.func104, Try.ntmps104
      go_wp2
      go_ret
      exact ⟨rfl, rfl⟩
  · go_enter Try.func104, Try.ntmps104
    go_wp2
    go_ret
    exact ⟨rfl, rfl⟩
def DrewD (B g : Nat) (w : World) (e : Ending) (w' : World) : Prop := ∃ (nd k sz du : Int) (ch : Bool), e = .returned (.agg #[.int .i64 nd, .int .i64 k, .int .i64 sz, .int .i64 du, .bool ch]) ∧ (0 ≤ k ∧ k ≤ 3 ∧ 0 ≤ sz ∧ sz ≤ 5 ∧ 0 ≤ du ∧ du ≤ 65535) ∧ Src w' B g ∧ w.grownBy w' (some g)
theorem src_set {w : World} {B g b : Nat} (h : Src w B g) (hb : b ≠ g) (hB : B ≤ b) (k : Nat) (v : Value) : Src (w.setCell ⟨b, k, none⟩ v) B g :=
  h.kept (grown_set (p := ⟨b, k, none⟩) (World.grownBy.refl _ _) (.inl rfl) v) (by intro e; injection e with e; exact hb e) (fun q hq => Nat.le_trans hB (Nat.le_of_eq (by simpa using hq)))
theorem set2 {w : World} {b : Nat} {u0 u1 u2 u3 u4 v : Value} {t : TypeId} (h : w.heap[b]? = some (.cells #[u0, u1, u2, u3, u4] t (0, 0))) : (w.setCell ⟨b, 2, none⟩ v).heap[b]? = some (.cells #[u0, u1, v, u3, u4] t (0, 0)) := by simpa using heap_setCell_same _ b 2 _ _ v h
theorem set3 {w : World} {b : Nat} {u0 u1 u2 u3 u4 v : Value} {t : TypeId} (h : w.heap[b]? = some (.cells #[u0, u1, u2, u3, u4] t (0, 0))) : (w.setCell ⟨b, 3, none⟩ v).heap[b]? = some (.cells #[u0, u1, u2, v, u4] t (0, 0)) := by simpa using heap_setCell_same _ b 3 _ _ v h
theorem set4 {w : World} {b : Nat} {u0 u1 u2 u3 u4 v : Value} {t : TypeId} (h : w.heap[b]? = some (.cells #[u0, u1, u2, u3, u4] t (0, 0))) : (w.setCell ⟨b, 4, none⟩ v).heap[b]? = some (.cells #[u0, u1, u2, u3, v] t (0, 0)) := by simpa using heap_setCell_same _ b 4 _ _ v h
theorem set1 {w : World} {b : Nat} {u0 u1 u2 u3 u4 v : Value} {t : TypeId} (h : w.heap[b]? = some (.cells #[u0, u1, u2, u3, u4] t (0, 0))) : (w.setCell ⟨b, 1, none⟩ v).heap[b]? = some (.cells #[u0, v, u2, u3, u4] t (0, 0)) := by simpa using heap_setCell_same _ b 1 _ _ v h
theorem set0 {w : World} {b : Nat} {u0 u1 u2 u3 u4 v : Value} {t : TypeId} (h : w.heap[b]? = some (.cells #[u0, u1, u2, u3, u4] t (0, 0))) : (w.setCell ⟨b, 0, none⟩ v).heap[b]? = some (.cells #[v, u1, u2, u3, u4] t (0, 0)) := by simpa using heap_setCell_same _ b 0 _ _ v h
/-- What is known while a descriptor is drawn: the source, the result's row, the variable's row. -/
structure DS (w : World) (B g b : Nat) (nd k sz du : Int) (ch : Bool) (W : World) : Prop where
  s : Src W B g
  g : w.grownBy W (some g)
  rr : W.heap[w.heap.size]? = some (.cells #[.int .i64 0, .int .i64 0, .int .i64 0, .int .i64 0, .bool false] 26 (0, 0))
  rb : W.heap[b]? = some (.cells #[.int .i64 nd, .int .i64 k, .int .i64 sz, .int .i64 du, .bool ch] 26 (0, 0))
section
variable {w W : World} {B g b : Nat} {nd k sz du : Int} {ch : Bool}
theorem DS.next (h : DS w B g b nd k sz du ch W) (hl : g < w.heap.size) (hb : w.heap.size < b) {W' : World} (S' : Src W' B g) (g' : W.grownBy W' (some g)) : DS w B g b nd k sz du ch W' :=
  ⟨S', grown_trans' h.g g' (.inl rfl), zkeep h.rr g' (by omega), zkeep h.rb g' (by omega)⟩
theorem DS.set {i : Nat} {v : Value} {nd' k' sz' du' : Int} {ch' : Bool} (h : DS w B g b nd k sz du ch W) (hl : g < w.heap.size) (hb : w.heap.size < b) (hB : B ≤ g)
    (hr : (W.setCell ⟨b, i, none⟩ v).heap[b]? = some (.cells #[.int .i64 nd', .int .i64 k', .int .i64 sz', .int .i64 du', .bool ch'] 26 (0, 0))) : DS w B g b nd' k' sz' du' ch' (W.setCell ⟨b, i, none⟩ v) :=
  ⟨src_set h.s (by omega) (by omega) i v, grown_set (p := ⟨b, i, none⟩) h.g (.inr (Nat.le_of_lt hb)) v, (heap_setCell_other _ _ _ _ (by show w.heap.size ≠ b; omega)).trans h.rr, hr⟩
end
set_option maxHeartbeats 2000000 in
theorem s_l08Draw (g B : Nat) (w : World) (h : Src w B g) :
    Calls Try.prog 106 #[.pointer (some ⟨g, 0, none⟩)] w (DrewD B g w) := by
  have hl := h.lt
  have hBg := h.1
  go_enter Try.func106, Try.ntmps106
  go_wp2_with fail
  have S0 := h.alloc (.cells #[.int .i64 0, .int .i64 0, .int .i64 0, .int .i64 0, .bool false] 26)
  have G0 : w.grownBy (w.alloc (.cells #[.int .i64 0, .int .i64 0, .int .i64 0, .int .i64 0, .bool false] 26)) (some g) := grown_alloc (World.grownBy.refl _ _) _
  have R0 := heap_alloc_new w (.cells #[.int .i64 0, .int .i64 0, .int .i64 0, .int .i64 0, .bool false] 26)
  refine (s_l01Next g B 4 _ S0).mono ?_
  rintro e w1 ⟨nd, rfl, _, _, S1, g1⟩
  have G1 := grown_trans' G0 g1 (.inl rfl)
  have R1 := zkeep R0 g1 (by omega)
  clear S0 G0 R0 g1 h
  go_wp2_with fail
  refine (s_l01Next g B 4 _ S1).mono ?_
  rintro e w2 ⟨k, rfl, k0, k1, S2, g2⟩
  have G2 := grown_trans' G1 g2 (.inl rfl)
  have R2 := zkeep R1 g2 (by omega)
  clear S1 G1 R1 g2
  go_wp2_with fail
  refine (s_l01Next g B 2 _ S2).mono ?_
  rintro e w3 ⟨r3, rfl, _, _, S3, g3⟩
  have G3 := grown_trans' G2 g3 (.inl rfl)
  have R3 := zkeep R2 g3 (by omega)
  have z3 := Below.ltK R3
  clear S2 G2 R2 g3
  go_wp2_with fail
  generalize (r3 == 0) = ch
  have D0 : DS w B g w3.heap.size nd k 0 0 ch (w3.alloc (.cells #[.int .i64 nd, .int .i64 k, .int .i64 0, .int .i64 0, .bool ch] 26)) :=
    ⟨S3.alloc _, grown_alloc G3 _, (Below.heap_alloc w3 _ _ z3).trans R3, heap_alloc_new w3 _⟩
  clear S3 G3 R3
  generalize w3.alloc _ = W at D0 ⊢
  generalize w3.heap.size = b at D0 z3 ⊢
  obtain ⟨d0, d1, d2, d3, d4⟩ := desc_cells D0.rb
  cases hd : (k == 0 || k == 2)
  · go_upto_region 4 with (go_at_call 104; refine (s_l06Data k _).mono ?_; rw [hd]; rintro e w' ⟨rfl, rfl⟩)
    clear d0 d1 d2 d3 d4
    have DD := D0
    clear D0
    obtain ⟨sz, hsz0, hsz5, hD⟩ : ∃ sz, 0 ≤ sz ∧ sz ≤ 5 ∧ DS w B g b nd k sz 0 ch W := ⟨_, by omega, by omega, DD⟩
    clear DD
    have hz := cellsZ_bd (k := k) hsz0 (by omega : sz ≤ 32)
    obtain ⟨d0, d1, d2, d3, d4⟩ := desc_cells hD.rb
    have hk3 : k ≤ 3 := (by omega)
    cases h3 : (k == 3)
    · go_upto_region 6 with fail
      obtain ⟨c7, D7⟩ : ∃ c, DS w B g b nd k sz 0 c W := ⟨_, hD⟩
      clear hD
      go_wp2_with (go_at_call 65; refine (s_l08Cells k sz _ hsz0 (by omega)).mono ?_; rintro e w' ⟨rfl, rfl⟩)
      refine (s_l01Next g B 200 _ D7.s).mono ?_
      rintro e w8 ⟨r8, rfl, r80, r81, S8, g8⟩
      have D8 := D7.next hl z3 S8 g8
      have hr8 : r8 ≤ 199 := (by omega)
      clear D7 S8 g8 d0 d1 d2 d3 d4
      obtain ⟨d0, d1, d2, d3, d4⟩ := desc_cells D8.rb
      have k3 := frozen_of_row _ _ 3 _ _ D8.rb
      have D9' := Lib.hid (D8.set (i := 3) (v := .int .i64 (cellsZ k sz + 20 + r8)) hl z3 hBg (set3 D8.rb))
      clear D8
      go_upto_region 7 with fail
      have D9 := D9'.out
      clear D9' d0 d1 d2 d3 d4 k3
      generalize World.setCell _ _ _ = W9 at D9 ⊢
      obtain ⟨d0, d1, d2, d3, d4⟩ := desc_cells D9.rb
      obtain ⟨e0, e1, e2, e3, e4⟩ := desc_cells D9.rr
      have l0 := frozen_of_row _ _ 0 _ _ D9.rr
      have l1 := frozen_of_row _ _ 1 _ _ D9.rr
      have l2 := frozen_of_row _ _ 2 _ _ D9.rr
      have l3 := frozen_of_row _ _ 3 _ _ D9.rr
      have l4 := frozen_of_row _ _ 4 _ _ D9.rr
      have RR := Lib.hid (five_heap (v0 := .int .i64 nd) (v1 := .int .i64 k) (v2 := .int .i64 sz) (v3 := .int .i64 (cellsZ k sz + 20 + r8)) (v4 := .bool c7) D9.rr)
      have SS := Lib.hid (src_set (src_set (src_set (src_set (src_set D9.s (b := w.heap.size) (by omega) (by omega) 0 (.int .i64 nd)) (b := w.heap.size) (by omega) (by omega) 1 (.int .i64 k)) (b := w.heap.size) (by omega) (by omega) 2 (.int .i64 sz)) (b := w.heap.size) (by omega) (by omega) 3 (.int .i64 (cellsZ k sz + 20 + r8))) (b := w.heap.size) (by omega) (by omega) 4 (.bool c7))
      have GG := Lib.hid (grown_set (p := ⟨w.heap.size, 4, none⟩) (grown_set (p := ⟨w.heap.size, 3, none⟩) (grown_set (p := ⟨w.heap.size, 2, none⟩) (grown_set (p := ⟨w.heap.size, 1, none⟩) (grown_set (p := ⟨w.heap.size, 0, none⟩) D9.g (.inr (Nat.le_refl _)) (.int .i64 nd)) (.inr (Nat.le_refl _)) (.int .i64 k)) (.inr (Nat.le_refl _)) (.int .i64 sz)) (.inr (Nat.le_refl _)) (.int .i64 (cellsZ k sz + 20 + r8))) (.inr (Nat.le_refl _)) (.bool c7))
      clear D9
      go_wp2
      have R := RR.out; have S := SS.out; have G := GG.out
      clear RR SS GG d0 d1 d2 d3 d4 e0 e1 e2 e3 e4 l0 l1 l2 l3 l4
      revert R S G
      generalize World.setCell _ _ _ = WF
      intro R S G
      obtain ⟨e0, e1, e2, e3, e4⟩ := desc_cells R
      exact bodyPost_ret (v := .agg #[.int .i64 nd, .int .i64 k, .int .i64 sz, .int .i64 (cellsZ k sz + 20 + r8), .bool c7]) (by simp [results, Try.results106, go_sem, e0, e1, e2, e3, e4]) rfl ⟨_, _, _, _, _, rfl, ⟨k0, by omega, hsz0, hsz5, by omega, by omega⟩, S, G⟩
    · have k4 := frozen_of_row _ _ 4 _ _ hD.rb
      have hE := Lib.hid (hD.set (i := 4) (v := .bool false) hl z3 hBg (set4 hD.rb))
      clear hD
      go_upto_region 6 with fail
      have hE' := hE.out
      clear hE d0 d1 d2 d3 d4 k4
      generalize World.setCell _ _ _ = W7 at hE' ⊢
      obtain ⟨c7, D7⟩ : ∃ c, DS w B g b nd k sz 0 c W7 := ⟨_, hE'⟩
      clear hE'
      obtain ⟨d0, d1, d2, d3, d4⟩ := desc_cells D7.rb
      go_wp2_with (go_at_call 65; refine (s_l08Cells k sz _ hsz0 (by omega)).mono ?_; rintro e w' ⟨rfl, rfl⟩)
      refine (s_l01Next g B 200 _ D7.s).mono ?_
      rintro e w8 ⟨r8, rfl, r80, r81, S8, g8⟩
      have D8 := D7.next hl z3 S8 g8
      have hr8 : r8 ≤ 199 := (by omega)
      clear D7 S8 g8 d0 d1 d2 d3 d4
      obtain ⟨d0, d1, d2, d3, d4⟩ := desc_cells D8.rb
      have k3 := frozen_of_row _ _ 3 _ _ D8.rb
      have D9' := Lib.hid (D8.set (i := 3) (v := .int .i64 (cellsZ k sz + 20 + r8)) hl z3 hBg (set3 D8.rb))
      clear D8
      go_upto_region 7 with fail
      have D9 := D9'.out
      clear D9' d0 d1 d2 d3 d4 k3
      generalize World.setCell _ _ _ = W9 at D9 ⊢
      obtain ⟨d0, d1, d2, d3, d4⟩ := desc_cells D9.rb
      obtain ⟨e0, e1, e2, e3, e4⟩ := desc_cells D9.rr
      have l0 := frozen_of_row _ _ 0 _ _ D9.rr
      have l1 := frozen_of_row _ _ 1 _ _ D9.rr
      have l2 := frozen_of_row _ _ 2 _ _ D9.rr
      have l3 := frozen_of_row _ _ 3 _ _ D9.rr
      have l4 := frozen_of_row _ _ 4 _ _ D9.rr
      have RR := Lib.hid (five_heap (v0 := .int .i64 nd) (v1 := .int .i64 k) (v2 := .int .i64 sz) (v3 := .int .i64 (cellsZ k sz + 20 + r8)) (v4 := .bool c7) D9.rr)
      have SS := Lib.hid (src_set (src_set (src_set (src_set (src_set D9.s (b := w.heap.size) (by omega) (by omega) 0 (.int .i64 nd)) (b := w.heap.size) (by omega) (by omega) 1 (.int .i64 k)) (b := w.heap.size) (by omega) (by omega) 2 (.int .i64 sz)) (b := w.heap.size) (by omega) (by omega) 3 (.int .i64 (cellsZ k sz + 20 + r8))) (b := w.heap.size) (by omega) (by omega) 4 (.bool c7))
      have GG := Lib.hid (grown_set (p := ⟨w.heap.size, 4, none⟩) (grown_set (p := ⟨w.heap.size, 3, none⟩) (grown_set (p := ⟨w.heap.size, 2, none⟩) (grown_set (p := ⟨w.heap.size, 1, none⟩) (grown_set (p := ⟨w.heap.size, 0, none⟩) D9.g (.inr (Nat.le_refl _)) (.int .i64 nd)) (.inr (Nat.le_refl _)) (.int .i64 k)) (.inr (Nat.le_refl _)) (.int .i64 sz)) (.inr (Nat.le_refl _)) (.int .i64 (cellsZ k sz + 20 + r8))) (.inr (Nat.le_refl _)) (.bool c7))
      clear D9
      go_wp2
      have R := RR.out; have S := SS.out; have G := GG.out
      clear RR SS GG d0 d1 d2 d3 d4 e0 e1 e2 e3 e4 l0 l1 l2 l3 l4
      revert R S G
      generalize World.setCell _ _ _ = WF
      intro R S G
      obtain ⟨e0, e1, e2, e3, e4⟩ := desc_cells R
      exact bodyPost_ret (v := .agg #[.int .i64 nd, .int .i64 k, .int .i64 sz, .int .i64 (cellsZ k sz + 20 + r8), .bool c7]) (by simp [results, Try.results106, go_sem, e0, e1, e2, e3, e4]) rfl ⟨_, _, _, _, _, rfl, ⟨k0, by omega, hsz0, hsz5, by omega, by omega⟩, S, G⟩
  · go_upto_region 4 with (first | (go_at_call 104; refine (s_l06Data k _).mono ?_; rw [hd]; rintro e w' ⟨rfl, rfl⟩) | (go_at_call 99; refine (s_l01Next g B 5 _ D0.s).mono ?_; rintro e w5 ⟨r5, rfl, r50, r51, S5, g5⟩; have D5 := D0.next hl z3 S5 g5; have hr5 : r5 ≤ 4 := (by omega); have k2 := frozen_of_row _ _ 2 _ _ D5.rb; clear d0 d1 d2 d3 d4; obtain ⟨d0, d1, d2, d3, d4⟩ := desc_cells D5.rb; have D6 := Lib.hid (D5.set (i := 2) (v := .int .i64 (1 + r5)) hl z3 hBg (set2 D5.rb)); clear D5))
    have D7 := D6.out
    clear D6 d0 d1 d2 d3 d4 k2
    clear D0
    generalize World.setCell _ _ _ = W at D7 ⊢
    have DD := D7
    clear D7
    obtain ⟨sz, hsz0, hsz5, hD⟩ : ∃ sz, 0 ≤ sz ∧ sz ≤ 5 ∧ DS w B g b nd k sz 0 ch W := ⟨_, by omega, by omega, DD⟩
    clear DD
    have hz := cellsZ_bd (k := k) hsz0 (by omega : sz ≤ 32)
    obtain ⟨d0, d1, d2, d3, d4⟩ := desc_cells hD.rb
    have hk3 : k ≤ 3 := (by omega)
    cases h3 : (k == 3)
    · go_upto_region 6 with fail
      obtain ⟨c7, D7⟩ : ∃ c, DS w B g b nd k sz 0 c W := ⟨_, hD⟩
      clear hD
      go_wp2_with (go_at_call 65; refine (s_l08Cells k sz _ hsz0 (by omega)).mono ?_; rintro e w' ⟨rfl, rfl⟩)
      refine (s_l01Next g B 200 _ D7.s).mono ?_
      rintro e w8 ⟨r8, rfl, r80, r81, S8, g8⟩
      have D8 := D7.next hl z3 S8 g8
      have hr8 : r8 ≤ 199 := (by omega)
      clear D7 S8 g8 d0 d1 d2 d3 d4
      obtain ⟨d0, d1, d2, d3, d4⟩ := desc_cells D8.rb
      have k3 := frozen_of_row _ _ 3 _ _ D8.rb
      have D9' := Lib.hid (D8.set (i := 3) (v := .int .i64 (cellsZ k sz + 20 + r8)) hl z3 hBg (set3 D8.rb))
      clear D8
      go_upto_region 7 with fail
      have D9 := D9'.out
      clear D9' d0 d1 d2 d3 d4 k3
      generalize World.setCell _ _ _ = W9 at D9 ⊢
      obtain ⟨d0, d1, d2, d3, d4⟩ := desc_cells D9.rb
      obtain ⟨e0, e1, e2, e3, e4⟩ := desc_cells D9.rr
      have l0 := frozen_of_row _ _ 0 _ _ D9.rr
      have l1 := frozen_of_row _ _ 1 _ _ D9.rr
      have l2 := frozen_of_row _ _ 2 _ _ D9.rr
      have l3 := frozen_of_row _ _ 3 _ _ D9.rr
      have l4 := frozen_of_row _ _ 4 _ _ D9.rr
      have RR := Lib.hid (five_heap (v0 := .int .i64 nd) (v1 := .int .i64 k) (v2 := .int .i64 sz) (v3 := .int .i64 (cellsZ k sz + 20 + r8)) (v4 := .bool c7) D9.rr)
      have SS := Lib.hid (src_set (src_set (src_set (src_set (src_set D9.s (b := w.heap.size) (by omega) (by omega) 0 (.int .i64 nd)) (b := w.heap.size) (by omega) (by omega) 1 (.int .i64 k)) (b := w.heap.size) (by omega) (by omega) 2 (.int .i64 sz)) (b := w.heap.size) (by omega) (by omega) 3 (.int .i64 (cellsZ k sz + 20 + r8))) (b := w.heap.size) (by omega) (by omega) 4 (.bool c7))
      have GG := Lib.hid (grown_set (p := ⟨w.heap.size, 4, none⟩) (grown_set (p := ⟨w.heap.size, 3, none⟩) (grown_set (p := ⟨w.heap.size, 2, none⟩) (grown_set (p := ⟨w.heap.size, 1, none⟩) (grown_set (p := ⟨w.heap.size, 0, none⟩) D9.g (.inr (Nat.le_refl _)) (.int .i64 nd)) (.inr (Nat.le_refl _)) (.int .i64 k)) (.inr (Nat.le_refl _)) (.int .i64 sz)) (.inr (Nat.le_refl _)) (.int .i64 (cellsZ k sz + 20 + r8))) (.inr (Nat.le_refl _)) (.bool c7))
      clear D9
      go_wp2
      have R := RR.out; have S := SS.out; have G := GG.out
      clear RR SS GG d0 d1 d2 d3 d4 e0 e1 e2 e3 e4 l0 l1 l2 l3 l4
      revert R S G
      generalize World.setCell _ _ _ = WF
      intro R S G
      obtain ⟨e0, e1, e2, e3, e4⟩ := desc_cells R
      exact bodyPost_ret (v := .agg #[.int .i64 nd, .int .i64 k, .int .i64 sz, .int .i64 (cellsZ k sz + 20 + r8), .bool c7]) (by simp [results, Try.results106, go_sem, e0, e1, e2, e3, e4]) rfl ⟨_, _, _, _, _, rfl, ⟨k0, by omega, hsz0, hsz5, by omega, by omega⟩, S, G⟩
    · have k4 := frozen_of_row _ _ 4 _ _ hD.rb
      have hE := Lib.hid (hD.set (i := 4) (v := .bool false) hl z3 hBg (set4 hD.rb))
      clear hD
      go_upto_region 6 with fail
      have hE' := hE.out
      clear hE d0 d1 d2 d3 d4 k4
      generalize World.setCell _ _ _ = W7 at hE' ⊢
      obtain ⟨c7, D7⟩ : ∃ c, DS w B g b nd k sz 0 c W7 := ⟨_, hE'⟩
      clear hE'
      obtain ⟨d0, d1, d2, d3, d4⟩ := desc_cells D7.rb
      go_wp2_with (go_at_call 65; refine (s_l08Cells k sz _ hsz0 (by omega)).mono ?_; rintro e w' ⟨rfl, rfl⟩)
      refine (s_l01Next g B 200 _ D7.s).mono ?_
      rintro e w8 ⟨r8, rfl, r80, r81, S8, g8⟩
      have D8 := D7.next hl z3 S8 g8
      have hr8 : r8 ≤ 199 := (by omega)
      clear D7 S8 g8 d0 d1 d2 d3 d4
      obtain ⟨d0, d1, d2, d3, d4⟩ := desc_cells D8.rb
      have k3 := frozen_of_row _ _ 3 _ _ D8.rb
      have D9' := Lib.hid (D8.set (i := 3) (v := .int .i64 (cellsZ k sz + 20 + r8)) hl z3 hBg (set3 D8.rb))
      clear D8
      go_upto_region 7 with fail
      have D9 := D9'.out
      clear D9' d0 d1 d2 d3 d4 k3
      generalize World.setCell _ _ _ = W9 at D9 ⊢
      obtain ⟨d0, d1, d2, d3, d4⟩ := desc_cells D9.rb
      obtain ⟨e0, e1, e2, e3, e4⟩ := desc_cells D9.rr
      have l0 := frozen_of_row _ _ 0 _ _ D9.rr
      have l1 := frozen_of_row _ _ 1 _ _ D9.rr
      have l2 := frozen_of_row _ _ 2 _ _ D9.rr
      have l3 := frozen_of_row _ _ 3 _ _ D9.rr
      have l4 := frozen_of_row _ _ 4 _ _ D9.rr
      have RR := Lib.hid (five_heap (v0 := .int .i64 nd) (v1 := .int .i64 k) (v2 := .int .i64 sz) (v3 := .int .i64 (cellsZ k sz + 20 + r8)) (v4 := .bool c7) D9.rr)
      have SS := Lib.hid (src_set (src_set (src_set (src_set (src_set D9.s (b := w.heap.size) (by omega) (by omega) 0 (.int .i64 nd)) (b := w.heap.size) (by omega) (by omega) 1 (.int .i64 k)) (b := w.heap.size) (by omega) (by omega) 2 (.int .i64 sz)) (b := w.heap.size) (by omega) (by omega) 3 (.int .i64 (cellsZ k sz + 20 + r8))) (b := w.heap.size) (by omega) (by omega) 4 (.bool c7))
      have GG := Lib.hid (grown_set (p := ⟨w.heap.size, 4, none⟩) (grown_set (p := ⟨w.heap.size, 3, none⟩) (grown_set (p := ⟨w.heap.size, 2, none⟩) (grown_set (p := ⟨w.heap.size, 1, none⟩) (grown_set (p := ⟨w.heap.size, 0, none⟩) D9.g (.inr (Nat.le_refl _)) (.int .i64 nd)) (.inr (Nat.le_refl _)) (.int .i64 k)) (.inr (Nat.le_refl _)) (.int .i64 sz)) (.inr (Nat.le_refl _)) (.int .i64 (cellsZ k sz + 20 + r8))) (.inr (Nat.le_refl _)) (.bool c7))
      clear D9
      go_wp2
      have R := RR.out; have S := SS.out; have G := GG.out
      clear RR SS GG d0 d1 d2 d3 d4 e0 e1 e2 e3 e4 l0 l1 l2 l3 l4
      revert R S G
      generalize World.setCell _ _ _ = WF
      intro R S G
      obtain ⟨e0, e1, e2, e3, e4⟩ := desc_cells R
      exact bodyPost_ret (v := .agg #[.int .i64 nd, .int .i64 k, .int .i64 sz, .int .i64 (cellsZ k sz + 20 + r8), .bool c7]) (by simp [results, Try.results106, go_sem, e0, e1, e2, e3, e4]) rfl ⟨_, _, _, _, _, rfl, ⟨k0, by omega, hsz0, hsz5, by omega, by omega⟩, S, G⟩
end Go.Proofs.Ytecelofoffdjlaa

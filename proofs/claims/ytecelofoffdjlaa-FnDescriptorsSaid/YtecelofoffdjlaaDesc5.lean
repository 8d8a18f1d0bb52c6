/- Contracts of DescriptorFromBytes, the law's walk. -/
import Derived.Test.YtecelofoffdjlaaDesc4
import Derived.Test.YtecelofoffdjlaaHelp
namespace Go.Proofs.Ytecelofoffdjlaa
open Go.RowKit
set_option linter.unusedSimpArgs false
set_option linter.unusedVariables false
def dfbOk (xs : List Int) : Bool := bytesOk xs && decide (xs.length = 5) && descOk (dN xs) (dK xs) (dS xs) (dD xs) (dC xs) && decide (xs.getD 4 0 ≤ 1)
def zeroDesc : Value := .agg #[.int .i64 0, .int .i64 0, .int .i64 0, .int .i64 0, .bool false]
def dfbV (xs : List Int) : Value := if dfbOk xs = true then .agg #[.int .i64 (dN xs), .int .i64 (dK xs), .int .i64 (dS xs), .int .i64 (dD xs), .bool (dC xs)] else zeroDesc
def dfbC (xs : List Int) : Int := if dfbOk xs = true then 0 else 6
theorem dfb_form (xs : List Int) : ∃ a b c d e, dfbV xs = .agg #[.int .i64 a, .int .i64 b, .int .i64 c, .int .i64 d, .bool e] := by
  unfold dfbV; split
  · exact ⟨_, _, _, _, _, rfl⟩
  · exact ⟨_, _, _, _, _, rfl⟩
theorem dfb_no1 {xs : List Int} (h : bytesOk xs = false) : dfbOk xs = false := by simp [dfbOk, h]
theorem dfb_no2 {xs : List Int} (h : xs.length ≠ 5) : dfbOk xs = false := by simp [dfbOk, h]
theorem five_cells {w : World} {B : Nat} {A : Option Addr} {c : Nat} {x0 x1 x2 x3 x4 : Int} (h : IntsAt w B A 5 c [x0, x1, x2, x3, x4]) :
    ∃ ad : Addr, A = some ad ∧ ad.block < B ∧ w.cell? ad = some (.int .i64 x0) ∧ w.cell? { block := ad.block, off := ad.off + 1 } = some (.int .i64 x1) ∧ w.cell? { block := ad.block, off := ad.off + 2 } = some (.int .i64 x2) ∧
      w.cell? { block := ad.block, off := ad.off + 3 } = some (.int .i64 x3) ∧ w.cell? { block := ad.block, off := ad.off + 4 } = some (.int .i64 x4) := by
  obtain ⟨ad, hA, hb, h0⟩ := h.at_ 0 (by omega)
  refine ⟨ad, hA, hb, by simpa [Addr.add] using h0, ?_, ?_, ?_, ?_⟩
  · obtain ⟨ad', hA', _, h1⟩ := h.at_ 1 (by omega)
    rw [hA] at hA'; injection hA' with e; subst e
    simpa [add_lit] using h1
  · obtain ⟨ad', hA', _, h1⟩ := h.at_ 2 (by omega)
    rw [hA] at hA'; injection hA' with e; subst e
    simpa [add_lit] using h1
  · obtain ⟨ad', hA', _, h1⟩ := h.at_ 3 (by omega)
    rw [hA] at hA'; injection hA' with e; subst e
    simpa [add_lit] using h1
  · obtain ⟨ad', hA', _, h1⟩ := h.at_ 4 (by omega)
    rw [hA] at hA'; injection hA' with e; subst e
    simpa [add_lit] using h1
theorem dfb_e1 {x : Int} (h0 : 0 ≤ x) (h1 : x ≤ 255) : IntKind.i64.wrap (x.tdiv 64) = x / 64 := by
  rw [Int.tdiv_eq_ediv_of_nonneg h0]; exact IntWalk.i64_in _ (by omega)
theorem dfb_e2 {x : Int} (h0 : 0 ≤ x) : x.tmod 64 = x % 64 := Int.tmod_eq_emod_of_nonneg h0
theorem dfb_e3 {x y : Int} (h0 : 0 ≤ x) (h1 : x ≤ 255) (h2 : 0 ≤ y) (h3 : y ≤ 255) : IntKind.i64.wrap (IntKind.i64.wrap (x * 256) + y) = x * 256 + y := by
  rw [IntWalk.i64_in (x * 256) (by omega)]; exact IntWalk.i64_in _ (by omega)
theorem dfb_e3' {x y : Int} (h0 : 0 ≤ x) (h1 : x ≤ 255) (h2 : 0 ≤ y) (h3 : y ≤ 255) : IntKind.i64.wrap (IntKind.i64.wrap (256 * x) + y) = x * 256 + y := by
  rw [IntWalk.i64_in (256 * x) (by omega), Int.mul_comm 256 x]; exact IntWalk.i64_in _ (by omega)
theorem dfb_same {x0 x1 x2 x3 x4 : Int} (h10 : 0 ≤ x1) (h11 : x1 ≤ 255) (h20 : 0 ≤ x2) (h30 : 0 ≤ x3) (h31 : x3 ≤ 255) (h40 : 0 ≤ x4) :
    eqL (descL x0 (x1 / 64) (x1 % 64) (x2 * 256 + x3) (x4 == 1)) [x0, x1, x2, x3, x4] = decide (x4 ≤ 1) := by
  have e1 : x1 / 64 * 64 + x1 % 64 = x1 := by omega
  have e2 : (x2 * 256 + x3) / 256 = x2 := by omega
  have e3 : (x2 * 256 + x3) % 256 = x3 := by omega
  unfold eqL descL oneZ
  rw [e1, e2, e3]
  by_cases h : x4 = 1
  · subst h; simp
  · by_cases h2 : x4 = 0
    · subst h2; simp
    · have : ¬ x4 ≤ 1 := by omega
      simp [h, this]; omega
theorem five_read {w : World} {g : Nat} {u0 u1 u2 u3 u4 : Value} {t : TypeId} (h : w.heap[g]? = some (.cells #[u0, u1, u2, u3, u4] t (0, 0))) (o : Obj) (v0 v1 v2 v3 v4 : Value) :
    ((((((w.setCell ⟨g, 0, none⟩ v0).setCell ⟨g, 1, none⟩ v1).setCell ⟨g, 2, none⟩ v2).setCell ⟨g, 3, none⟩ v3).setCell ⟨g, 4, none⟩ v4).alloc o).heap[g]? = some (.cells #[v0, v1, v2, v3, v4] t (0, 0)) :=
  (Below.heap_alloc _ o _ (Below.lt_of (five_heap h))).trans (five_heap h)
theorem below_five_alloc {B : Nat} {a w : World} (h : Below B a w) {g : Nat} (hg : B ≤ g) (hB : B ≤ w.heap.size) (o : Obj) (v0 v1 v2 v3 v4 : Value) : Below B a ((((((w.setCell ⟨g, 0, none⟩ v0).setCell ⟨g, 1, none⟩ v1).setCell ⟨g, 2, none⟩ v2).setCell ⟨g, 3, none⟩ v3).setCell ⟨g, 4, none⟩ v4).alloc o) :=
  (below_five h hg).alloc (by simpa using hB) o
set_option maxHeartbeats 1000000 in
theorem i_DescriptorFromBytes (A : Option Addr) (n c : Nat) (xs : List Int) (B : Nat) (w : World) (h : IntsAt w B A n c xs) (hB : B ≤ w.heap.size) :
    Calls Try.prog 24 #[.slice A n c] w fun e w' => e = .returned (.tuple #[dfbV xs, .int .i64 (dfbC xs)]) ∧ Below w.heap.size w w' := by
  have hI := h.alloc hB (.cells #[.int .i64 0, .int .i64 0, .int .i64 0, .int .i64 0, .bool false] 26)
  have bA := (Below.refl w.heap.size w).alloc (Nat.le_refl _) (.cells #[.int .i64 0, .int .i64 0, .int .i64 0, .int .i64 0, .bool false] 26)
  have hl := h.len
  have hz := h.small
  cases hb : bytesOk xs
  · rw [show dfbV xs = zeroDesc by simp [dfbV, dfb_no1 hb], show dfbC xs = 6 by simp [dfbC, dfb_no1 hb]]
    go_enter Try.func24, Try.ntmps24
    go_wp2_with ((go_at_call 71; refine (i_IsBytes _ _ _ xs _ _ hI).mono ?_; rw [hb]; rintro e w' ⟨rfl, rfl⟩))
    exact bodyPost_ret (v := .tuple #[zeroDesc, .int .i64 6]) (by simp [results, Try.results24, go_sem, zeroDesc]) rfl ⟨rfl, by first | exact bA | exact below_five bA (Nat.le_refl _)⟩
  by_cases h5 : n = 5
  · subst h5
    match xs, hl with
    | [x0, x1, x2, x3, x4], _ =>
    have hr : ∀ k, k < 5 → 0 ≤ [x0, x1, x2, x3, x4].getD k 0 ∧ [x0, x1, x2, x3, x4].getD k 0 ≤ 255 := fun k hk => bytesOk_at hb k (by simpa using hk)
    have r0 := hr 0 (by omega)
    have r1 := hr 1 (by omega)
    have r2 := hr 2 (by omega)
    have r3 := hr 3 (by omega)
    have r4 := hr 4 (by omega)
    simp at r0 r1 r2 r3 r4
    clear hr
    have hok : dfbOk [x0, x1, x2, x3, x4] = (descOk x0 (x1 / 64) (x1 % 64) (x2 * 256 + x3) (x4 == 1) && decide (x4 ≤ 1)) := by
      simp [dfbOk, hb, dN, dK, dS, dD, dC]
    obtain ⟨ad, rfl, hadb, c0, c1, c2, c3, c4⟩ := five_cells hI
    have e1 := Lib.hid (dfb_e1 r1.1 r1.2)
    have e2 := Lib.hid (dfb_e2 r1.1)
    have e3 := Lib.hid (dfb_e3 r2.1 r2.2 r3.1 r3.2)
    have e4 : Hid ((x4 == 1) = (x4 == 1)) := Lib.hid rfl
    have hc5 := h.le
    have hcall := i_descriptorFrom ad c x0 x1 x2 x3 x4 B (w.alloc (.cells #[.int .i64 0, .int .i64 0, .int .i64 0, .int .i64 0, .bool false] 26)) hadb (by simp; omega) hc5 c0 c1 c2 c3 c4 _ _ _ _ e1 e2 e3 e4
    have HC := Lib.hid hcall
    clear hcall c0 c1 c2 c3 c4 e1 e2 e3 e4
    cases hd : (descOk x0 (x1 / 64) (x1 % 64) (x2 * 256 + x3) (x4 == 1) && decide (x4 ≤ 1))
    · rw [hd] at hok HC
      rw [show dfbV [x0, x1, x2, x3, x4] = zeroDesc by simp [dfbV, hok], show dfbC [x0, x1, x2, x3, x4] = 6 by simp [dfbC, hok]]
      go_enter Try.func24, Try.ntmps24
      go_wp2_with fail
      refine (i_IsBytes _ _ _ _ _ _ hI).mono ?_
      rw [hb]
      rintro e w' ⟨rfl, rfl⟩
      go_wp2_with fail
      refine (HC.out).mono ?_
      rintro e w1 ⟨rfl, b1⟩
      have B1 := bA.trans (b1.mono (by simp))
      have hR := (b1.block w.heap.size (by simp)).trans (heap_alloc_new w _)
      obtain ⟨g0, g1, g2, g3, g4⟩ := desc_cells hR
      have k0 := frozen_of_row _ _ 0 _ _ hR
      have k1 := frozen_of_row _ _ 1 _ _ hR
      have k2 := frozen_of_row _ _ 2 _ _ hR
      have k3 := frozen_of_row _ _ 3 _ _ hR
      have k4 := frozen_of_row _ _ 4 _ _ hR
      have f2 : w.heap.size < w1.heap.size := Below.lt_of hR
      have f1 : w.heap.size ≠ w1.heap.size := by omega
      have B2 := B1.alloc (Nat.le_of_lt f2)
      go_wp2
      have R := five_read hR (.cells #[.int .i64 x0, .int .i64 (x1 / 64), .int .i64 (x1 % 64), .int .i64 (x2 * 256 + x3), .bool (x4 == 1)] 26) (.int .i64 0) (.int .i64 0) (.int .i64 0) (.int .i64 0) (.bool false)
      have BB := below_five_alloc B1 (g := w.heap.size) (Nat.le_refl _) (Nat.le_of_lt f2) (.cells #[.int .i64 x0, .int .i64 (x1 / 64), .int .i64 (x1 % 64), .int .i64 (x2 * 256 + x3), .bool (x4 == 1)] 26) (.int .i64 0) (.int .i64 0) (.int .i64 0) (.int .i64 0) (.bool false)
      clear HC g0 g1 g2 g3 g4 k0 k1 k2 k3 k4 hR B1 b1 bA hI
      revert R BB
      generalize World.alloc _ _ = W
      intro R BB
      obtain ⟨y0, y1, y2, y3, y4⟩ := desc_cells R
      exact bodyPost_ret (v := .tuple #[zeroDesc, .int .i64 6]) (by simp [results, Try.results24, go_sem, zeroDesc, y0, y1, y2, y3, y4]) rfl ⟨rfl, BB⟩
    · rw [hd] at hok HC
      rw [show dfbV [x0, x1, x2, x3, x4] = .agg #[.int .i64 x0, .int .i64 (x1 / 64), .int .i64 (x1 % 64), .int .i64 (x2 * 256 + x3), .bool (x4 == 1)] by simp [dfbV, hok, dN, dK, dS, dD, dC], show dfbC [x0, x1, x2, x3, x4] = 0 by simp [dfbC, hok]]
      go_enter Try.func24, Try.ntmps24
      go_wp2_with fail
      refine (i_IsBytes _ _ _ _ _ _ hI).mono ?_
      rw [hb]
      rintro e w' ⟨rfl, rfl⟩
      go_wp2_with fail
      refine (HC.out).mono ?_
      rintro e w1 ⟨rfl, b1⟩
      have B1 := bA.trans (b1.mono (by simp))
      have hR := (b1.block w.heap.size (by simp)).trans (heap_alloc_new w _)
      obtain ⟨g0, g1, g2, g3, g4⟩ := desc_cells hR
      have k0 := frozen_of_row _ _ 0 _ _ hR
      have k1 := frozen_of_row _ _ 1 _ _ hR
      have k2 := frozen_of_row _ _ 2 _ _ hR
      have k3 := frozen_of_row _ _ 3 _ _ hR
      have k4 := frozen_of_row _ _ 4 _ _ hR
      have f2 : w.heap.size < w1.heap.size := Below.lt_of hR
      have f1 : w.heap.size ≠ w1.heap.size := by omega
      have B2 := B1.alloc (Nat.le_of_lt f2)
      go_wp2
      have R := five_read hR (.cells #[.int .i64 x0, .int .i64 (x1 / 64), .int .i64 (x1 % 64), .int .i64 (x2 * 256 + x3), .bool (x4 == 1)] 26) (.int .i64 x0) (.int .i64 (x1 / 64)) (.int .i64 (x1 % 64)) (.int .i64 (x2 * 256 + x3)) (.bool (x4 == 1))
      have BB := below_five_alloc B1 (g := w.heap.size) (Nat.le_refl _) (Nat.le_of_lt f2) (.cells #[.int .i64 x0, .int .i64 (x1 / 64), .int .i64 (x1 % 64), .int .i64 (x2 * 256 + x3), .bool (x4 == 1)] 26) (.int .i64 x0) (.int .i64 (x1 / 64)) (.int .i64 (x1 % 64)) (.int .i64 (x2 * 256 + x3)) (.bool (x4 == 1))
      clear HC g0 g1 g2 g3 g4 k0 k1 k2 k3 k4 hR B1 b1 bA hI
      revert R BB
      generalize World.alloc _ _ = W
      intro R BB
      obtain ⟨y0, y1, y2, y3, y4⟩ := desc_cells R
      exact bodyPost_ret (v := .tuple #[.agg #[.int .i64 x0, .int .i64 (x1 / 64), .int .i64 (x1 % 64), .int .i64 (x2 * 256 + x3), .bool (x4 == 1)], .int .i64 0]) (by simp [results, Try.results24, go_sem, y0, y1, y2, y3, y4]) rfl ⟨rfl, BB⟩
  · have hn : ((n : Int) == 5) = false := by simp; omega
    rw [show dfbV xs = zeroDesc by simp [dfbV, dfb_no2 (by omega : xs.length ≠ 5)], show dfbC xs = 6 by simp [dfbC, dfb_no2 (by omega : xs.length ≠ 5)]]
    go_enter Try.func24, Try.ntmps24
    go_wp2_with fail
    refine (i_IsBytes _ _ _ _ _ _ hI).mono ?_
    rw [hb]
    rintro e w' ⟨rfl, rfl⟩
    go_wp2
    exact bodyPost_ret (v := .tuple #[zeroDesc, .int .i64 6]) (by simp [results, Try.results24, go_sem, zeroDesc]) rfl ⟨rfl, by first | exact bA | exact below_five bA (Nat.le_refl _)⟩
set_option maxHeartbeats 1000000 in
theorem s_DescriptorFromBytes (A : Option Addr) (n c : Nat) (xs : List Int) (B : Nat) (w : World) (h : IntsAt w B A n c xs) (hB : B ≤ w.heap.size) :
    Calls Try.prog 22 #[.slice A n c] w fun e w' => e = .returned (.tuple #[dfbV xs, .int .i64 (dfbC xs)]) ∧ Below w.heap.size w w' := by
  have hI := h.alloc hB (.cells #[.int .i64 0, .int .i64 0, .int .i64 0, .int .i64 0, .bool false] 26)
  have bA := (Below.refl w.heap.size w).alloc (Nat.le_refl _) (.cells #[.int .i64 0, .int .i64 0, .int .i64 0, .int .i64 0, .bool false] 26)
  have hl := h.len
  have hz := h.small
  by_cases h5 : n = 5
  · cases hb : bytesOk xs
    · subst h5
      rw [show dfbV xs = zeroDesc by simp [dfbV, dfb_no1 hb], show dfbC xs = 6 by simp [dfbC, dfb_no1 hb]]
      go_enter Try.func22, Try.ntmps22
      go_wp2_with fail
      refine (s_IsBytes _ _ _ _ _ _ hI).mono ?_
      rw [hb]
      rintro e w' ⟨rfl, rfl⟩
      go_wp2
      exact bodyPost_ret (v := .tuple #[zeroDesc, .int .i64 6]) (by simp [results, Try.results22, go_sem, zeroDesc]) rfl ⟨rfl, by first | exact bA | exact below_five bA (Nat.le_refl _)⟩
    subst h5
    match xs, hl with
    | [x0, x1, x2, x3, x4], _ =>
    have hr : ∀ k, k < 5 → 0 ≤ [x0, x1, x2, x3, x4].getD k 0 ∧ [x0, x1, x2, x3, x4].getD k 0 ≤ 255 := fun k hk => bytesOk_at hb k (by simpa using hk)
    have r0 := hr 0 (by omega)
    have r1 := hr 1 (by omega)
    have r2 := hr 2 (by omega)
    have r3 := hr 3 (by omega)
    have r4 := hr 4 (by omega)
    simp at r0 r1 r2 r3 r4
    clear hr
    have hok : dfbOk [x0, x1, x2, x3, x4] = (descOk x0 (x1 / 64) (x1 % 64) (x2 * 256 + x3) (x4 == 1) && decide (x4 ≤ 1)) := by
      simp [dfbOk, hb, dN, dK, dS, dD, dC]
    obtain ⟨ad, rfl, hadb, c0, c1, c2, c3, c4⟩ := five_cells hI
    have e1 := Lib.hid (dfb_e1 r1.1 r1.2)
    have e2 := Lib.hid (dfb_e2 r1.1)
    have e3 := Lib.hid (dfb_e3' r2.1 r2.2 r3.1 r3.2)
    have e4 : Hid ((x4 == 1) = (x4 == 1)) := Lib.hid rfl
    have hc5 := h.le
    have hcall := s_l08From ad c x0 x1 x2 x3 x4 B (w.alloc (.cells #[.int .i64 0, .int .i64 0, .int .i64 0, .int .i64 0, .bool false] 26)) hadb (by simp; omega) hc5 c0 c1 c2 c3 c4 hI _ _ _ _ e1 e2 e3 e4
    rw [dfb_same r1.1 r1.2 r2.1 r3.1 r3.2 r4.1] at hcall
    have HC := Lib.hid hcall
    clear hcall c0 c1 c2 c3 c4 e1 e2 e3 e4
    cases hd : (descOk x0 (x1 / 64) (x1 % 64) (x2 * 256 + x3) (x4 == 1) && decide (x4 ≤ 1))
    · rw [hd] at hok HC
      rw [show dfbV [x0, x1, x2, x3, x4] = zeroDesc by simp [dfbV, hok], show dfbC [x0, x1, x2, x3, x4] = 6 by simp [dfbC, hok]]
      go_enter Try.func22, Try.ntmps22
      go_wp2_with fail
      refine (s_IsBytes _ _ _ _ _ _ hI).mono ?_
      rw [hb]
      rintro e w' ⟨rfl, rfl⟩
      go_wp2_with fail
      refine (HC.out).mono ?_
      rintro e w1 ⟨rfl, b1⟩
      have B1 := bA.trans (b1.mono (by simp))
      have hR := (b1.block w.heap.size (by simp)).trans (heap_alloc_new w _)
      obtain ⟨g0, g1, g2, g3, g4⟩ := desc_cells hR
      have k0 := frozen_of_row _ _ 0 _ _ hR
      have k1 := frozen_of_row _ _ 1 _ _ hR
      have k2 := frozen_of_row _ _ 2 _ _ hR
      have k3 := frozen_of_row _ _ 3 _ _ hR
      have k4 := frozen_of_row _ _ 4 _ _ hR
      have f2 : w.heap.size < w1.heap.size := Below.lt_of hR
      have f1 : w.heap.size ≠ w1.heap.size := by omega
      have B2 := B1.alloc (Nat.le_of_lt f2)
      go_wp2
      have R := five_read hR (.cells #[.int .i64 x0, .int .i64 (x1 / 64), .int .i64 (x1 % 64), .int .i64 (x2 * 256 + x3), .bool (x4 == 1)] 26) (.int .i64 0) (.int .i64 0) (.int .i64 0) (.int .i64 0) (.bool false)
      have BB := below_five_alloc B1 (g := w.heap.size) (Nat.le_refl _) (Nat.le_of_lt f2) (.cells #[.int .i64 x0, .int .i64 (x1 / 64), .int .i64 (x1 % 64), .int .i64 (x2 * 256 + x3), .bool (x4 == 1)] 26) (.int .i64 0) (.int .i64 0) (.int .i64 0) (.int .i64 0) (.bool false)
      clear HC g0 g1 g2 g3 g4 k0 k1 k2 k3 k4 hR B1 b1 bA hI
      revert R BB
      generalize World.alloc _ _ = W
      intro R BB
      obtain ⟨y0, y1, y2, y3, y4⟩ := desc_cells R
      exact bodyPost_ret (v := .tuple #[zeroDesc, .int .i64 6]) (by simp [results, Try.results22, go_sem, zeroDesc, y0, y1, y2, y3, y4]) rfl ⟨rfl, BB⟩
    · rw [hd] at hok HC
      rw [show dfbV [x0, x1, x2, x3, x4] = .agg #[.int .i64 x0, .int .i64 (x1 / 64), .int .i64 (x1 % 64), .int .i64 (x2 * 256 + x3), .bool (x4 == 1)] by simp [dfbV, hok, dN, dK, dS, dD, dC], show dfbC [x0, x1, x2, x3, x4] = 0 by simp [dfbC, hok]]
      go_enter Try.func22, Try.ntmps22
      go_wp2_with fail
      refine (s_IsBytes _ _ _ _ _ _ hI).mono ?_
      rw [hb]
      rintro e w' ⟨rfl, rfl⟩
      go_wp2_with fail
      refine (HC.out).mono ?_
      rintro e w1 ⟨rfl, b1⟩
      have B1 := bA.trans (b1.mono (by simp))
      have hR := (b1.block w.heap.size (by simp)).trans (heap_alloc_new w _)
      obtain ⟨g0, g1, g2, g3, g4⟩ := desc_cells hR
      have k0 := frozen_of_row _ _ 0 _ _ hR
      have k1 := frozen_of_row _ _ 1 _ _ hR
      have k2 := frozen_of_row _ _ 2 _ _ hR
      have k3 := frozen_of_row _ _ 3 _ _ hR
      have k4 := frozen_of_row _ _ 4 _ _ hR
      have f2 : w.heap.size < w1.heap.size := Below.lt_of hR
      have f1 : w.heap.size ≠ w1.heap.size := by omega
      have B2 := B1.alloc (Nat.le_of_lt f2)
      go_wp2
      have R := five_read hR (.cells #[.int .i64 x0, .int .i64 (x1 / 64), .int .i64 (x1 % 64), .int .i64 (x2 * 256 + x3), .bool (x4 == 1)] 26) (.int .i64 x0) (.int .i64 (x1 / 64)) (.int .i64 (x1 % 64)) (.int .i64 (x2 * 256 + x3)) (.bool (x4 == 1))
      have BB := below_five_alloc B1 (g := w.heap.size) (Nat.le_refl _) (Nat.le_of_lt f2) (.cells #[.int .i64 x0, .int .i64 (x1 / 64), .int .i64 (x1 % 64), .int .i64 (x2 * 256 + x3), .bool (x4 == 1)] 26) (.int .i64 x0) (.int .i64 (x1 / 64)) (.int .i64 (x1 % 64)) (.int .i64 (x2 * 256 + x3)) (.bool (x4 == 1))
      clear HC g0 g1 g2 g3 g4 k0 k1 k2 k3 k4 hR B1 b1 bA hI
      revert R BB
      generalize World.alloc _ _ = W
      intro R BB
      obtain ⟨y0, y1, y2, y3, y4⟩ := desc_cells R
      exact bodyPost_ret (v := .tuple #[.agg #[.int .i64 x0, .int .i64 (x1 / 64), .int .i64 (x1 % 64), .int .i64 (x2 * 256 + x3), .bool (x4 == 1)], .int .i64 0]) (by simp [results, Try.results22, go_sem, y0, y1, y2, y3, y4]) rfl ⟨rfl, BB⟩
  · have hn : ((n : Int) == 5) = false := by simp; omega
    rw [show dfbV xs = zeroDesc by simp [dfbV, dfb_no2 (by omega : xs.length ≠ 5)], show dfbC xs = 6 by simp [dfbC, dfb_no2 (by omega : xs.length ≠ 5)]]
    go_enter Try.func22, Try.ntmps22
    go_wp2
    exact bodyPost_ret (v := .tuple #[zeroDesc, .int .i64 6]) (by simp [results, Try.results22, go_sem, zeroDesc]) rfl ⟨rfl, by first | exact bA | exact below_five bA (Nat.le_refl _)⟩
end Go.Proofs.Ytecelofoffdjlaa

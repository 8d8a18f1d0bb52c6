/- Contracts of PauseOf and DescriptorToBytes. -/
import Derived.Test.YtecelofoffdjlaaDesc
import Derived.StillTailTactics
import Derived.Deep.RegionHeld3
namespace Go.Proofs.Ytecelofoffdjlaa
open Go.RowKit
set_option linter.unusedSimpArgs false
set_option linter.unusedVariables false
theorem desc_bd {nd k sz du : Int} {ch : Bool} (h : descOk nd k sz du ch = true) : 0 ≤ nd ∧ nd ≤ 31 ∧ 0 ≤ k ∧ k ≤ 3 ∧ sizeOk k sz = true ∧ 0 ≤ sz ∧ sz ≤ 32 ∧ cellsZ k sz + 20 ≤ du ∧ du ≤ 1000 := by
  rcases desc_ways nd k sz du ch with ⟨_, e⟩ | ⟨_, _, _, e⟩ | ⟨_, _, _, _, _, e⟩ | ⟨_, _, _, _, _, e⟩ | ⟨_, _, _, _, _, _, _, _, _, e⟩ | ⟨a1, a2, a3, a4, a5, a6, a7, _, a8, a9, e⟩
  all_goals (first | (rw [h] at e; cases e; done) | exact ⟨a1, a2, a3, a4, a5, a6, a7, a8, a9⟩)
def pauseV (nd k sz du : Int) (ch : Bool) : Int := if descOk nd k sz du ch = true then du - cellsZ k sz else 0
def descC (nd k sz du : Int) (ch : Bool) : Int := if descOk nd k sz du ch = true then 0 else 1
/-- The five cells of a descriptor's block. -/
theorem desc_cells {w : World} {g : Nat} {a b c d e : Value} {t : TypeId} (h : w.heap[g]? = some (.cells #[a, b, c, d, e] t (0, 0))) :
    w.cell? ⟨g, 0, none⟩ = some a ∧ w.cell? ⟨g, 1, none⟩ = some b ∧ w.cell? ⟨g, 2, none⟩ = some c ∧ w.cell? ⟨g, 3, none⟩ = some d ∧ w.cell? ⟨g, 4, none⟩ = some e :=
  ⟨cell_of_row _ _ _ _ _ _ h, cell_of_row _ _ _ _ _ _ h, cell_of_row _ _ _ _ _ _ h, cell_of_row _ _ _ _ _ _ h, cell_of_row _ _ _ _ _ _ h⟩
theorem i_PauseOf (nd k sz du : Int) (ch : Bool) (w : World) :
    Calls Try.prog 16 #[.agg #[.int .i64 nd, .int .i64 k, .int .i64 sz, .int .i64 du, .bool ch]] w fun e w' => e = .returned (.tuple #[.int .i64 (pauseV nd k sz du ch), .int .i64 (descC nd k sz du ch)]) ∧ Below w.heap.size w w' := by
  cases hd : descOk nd k sz du ch
  · rw [show pauseV nd k sz du ch = 0 by simp [pauseV, hd], show descC nd k sz du ch = 1 by simp [descC, hd]]
    go_enter Try.func16, Try.ntmps16
    go_wp2_with fail
    refine (i_IsDescriptor _ _ _ _ _ _).mono ?_
    rintro e w1 ⟨rfl, b1⟩
    go_wp2
    go_ret2
    exact ⟨rfl, ((Below.refl _ _).alloc (Nat.le_refl _) _).trans (b1.mono (by simp))⟩
  · rw [show pauseV nd k sz du ch = du - cellsZ k sz by simp [pauseV, hd], show descC nd k sz du ch = 0 by simp [descC, hd]]
    obtain ⟨_, _, _, _, _, h5, h6, h7, h8⟩ := desc_bd hd
    have hz := cellsZ_bd (k := k) h5 h6
    go_enter Try.func16, Try.ntmps16
    go_wp2_with fail
    refine (i_IsDescriptor _ _ _ _ _ _).mono ?_
    rintro e w1 ⟨rfl, b1⟩
    have hblk := b1.block w.heap.size (by simp)
    rw [show (w.alloc (.cells #[.int .i64 nd, .int .i64 k, .int .i64 sz, .int .i64 du, .bool ch] 26)).heap[w.heap.size]? = _ from heap_alloc_new w _] at hblk
    obtain ⟨c0, c1, c2, c3, c4⟩ := desc_cells hblk
    clear hblk
    go_wp2_with fail
    go_quiet ((go_at_call 66; exact quiet_l (i_cellsNeeded _ _ _ h5 h6)))
    go_wp2
    go_ret2
    exact ⟨rfl, below_drewN (((Below.refl _ _).alloc (Nat.le_refl _) _).trans (b1.mono (by simp))) _⟩
theorem s_PauseOf (nd k sz du : Int) (ch : Bool) (w : World) :
    Calls Try.prog 14 #[.agg #[.int .i64 nd, .int .i64 k, .int .i64 sz, .int .i64 du, .bool ch]] w fun e w' => e = .returned (.tuple #[.int .i64 (pauseV nd k sz du ch), .int .i64 (descC nd k sz du ch)]) ∧ Below w.heap.size w w' := by
  cases hd : descOk nd k sz du ch
  · rw [show pauseV nd k sz du ch = 0 by simp [pauseV, hd], show descC nd k sz du ch = 1 by simp [descC, hd]]
    go_enter Try.func14, Try.ntmps14
    go_wp2_with fail
    refine (s_IsDescriptor _ _ _ _ _ _).mono ?_
    rintro e w1 ⟨rfl, b1⟩
    go_wp2
    go_ret2
    exact ⟨rfl, ((Below.refl _ _).alloc (Nat.le_refl _) _).trans (b1.mono (by simp))⟩
  · rw [show pauseV nd k sz du ch = du - cellsZ k sz by simp [pauseV, hd], show descC nd k sz du ch = 0 by simp [descC, hd]]
    obtain ⟨_, _, _, _, _, h5, h6, h7, h8⟩ := desc_bd hd
    have hz := cellsZ_bd (k := k) h5 h6
    go_enter Try.func14, Try.ntmps14
    go_wp2_with fail
    refine (s_IsDescriptor _ _ _ _ _ _).mono ?_
    rintro e w1 ⟨rfl, b1⟩
    have hblk := b1.block w.heap.size (by simp)
    rw [show (w.alloc (.cells #[.int .i64 nd, .int .i64 k, .int .i64 sz, .int .i64 du, .bool ch] 26)).heap[w.heap.size]? = _ from heap_alloc_new w _] at hblk
    obtain ⟨c0, c1, c2, c3, c4⟩ := desc_cells hblk
    clear hblk
    go_wp2_with fail
    go_quiet ((go_at_call 65; exact quiet_l (s_l08Cells _ _ _ h5 h6)))
    go_wp2
    go_ret2
    exact ⟨rfl, below_drewN (((Below.refl _ _).alloc (Nat.le_refl _) _).trans (b1.mono (by simp))) _⟩
def oneZ (b : Bool) : Int := if b = true then 1 else 0
def descL (nd k sz du : Int) (ch : Bool) : List Int := [nd, k * 64 + sz, du / 256, du % 256, oneZ ch]
def descR (nd k sz du : Int) (ch : Bool) : List Int := if descOk nd k sz du ch = true then descL nd k sz du ch else []
theorem descR_len (nd k sz du : Int) (ch : Bool) : (descR nd k sz du ch).length ≤ 5 := by unfold descR; split <;> simp [descL]
theorem s_l08Bytes (nd k sz du : Int) (ch : Bool) (w : World) (h0 : 0 ≤ k) (h1 : k ≤ 3) (h2 : 0 ≤ sz) (h3 : sz ≤ 255) (h4 : 0 ≤ du) (h5 : du ≤ 65535) :
    Calls Try.prog 67 #[.agg #[.int .i64 nd, .int .i64 k, .int .i64 sz, .int .i64 du, .bool ch]] w fun e w' => ∃ v, e = .returned v ∧ IOwn w' w.heap.size v (descL nd k sz du ch) ∧ Below w.heap.size w w' := by
  cases ch
  all_goals
    go_enter Try.func67, Try.ntmps67
    go_wp2
    go_ret
    refine ⟨_, rfl, lit_own' _ (descL nd k sz du _) _ _ (by simp) (by simp) (by simp [descL]), ((Below.refl _ _).alloc (Nat.le_refl _) _).alloc (by simp) _⟩
theorem i_oneIf (b : Bool) (w : World) : Calls Try.prog 114 #[.bool b] w fun e w' => e = .returned (.int .i64 (oneZ b)) ∧ w = w' := by
  cases b
  all_goals
    go_enter Try.func114, Try.ntmps114
    go_wp2
    go_ret
    exact ⟨rfl, rfl⟩
theorem i_descriptorBytes (nd k sz du : Int) (ch : Bool) (w : World) (h0 : 0 ≤ k) (h1 : k ≤ 3) (h2 : 0 ≤ sz) (h3 : sz ≤ 255) (h4 : 0 ≤ du) (h5 : du ≤ 65535) :
    Calls Try.prog 68 #[.agg #[.int .i64 nd, .int .i64 k, .int .i64 sz, .int .i64 du, .bool ch]] w fun e w' => ∃ v, e = .returned v ∧ IOwn w' w.heap.size v (descL nd k sz du ch) ∧ Below w.heap.size w w' := by
  have c0 : ∀ o : Obj, o = .cells #[.int .i64 nd, .int .i64 k, .int .i64 sz, .int .i64 du, .bool ch] 26 → ((w.alloc o).cell? ⟨w.heap.size, 0, none⟩ = some (.int .i64 nd) ∧ (w.alloc o).cell? ⟨w.heap.size, 1, none⟩ = some (.int .i64 k) ∧ (w.alloc o).cell? ⟨w.heap.size, 2, none⟩ = some (.int .i64 sz) ∧ (w.alloc o).cell? ⟨w.heap.size, 3, none⟩ = some (.int .i64 du) ∧ (w.alloc o).cell? ⟨w.heap.size, 4, none⟩ = some (.bool ch)) :=
    fun o ho => by subst ho; exact desc_cells (heap_alloc_new w _)
  have C0 := Lib.hid c0
  clear c0
  go_enter Try.func68, Try.ntmps68
  go_wp2
  have b1 := (Below.refl w.heap.size w).alloc (Nat.le_refl _) (.cells #[.int .i64 nd, .int .i64 k, .int .i64 sz, .int .i64 du, .bool ch] 26)
  obtain ⟨c0, c1, c2, c3, c4⟩ := C0.out _ rfl
  have z1 : (w.alloc (.cells #[.int .i64 nd, .int .i64 k, .int .i64 sz, .int .i64 du, .bool ch] 26)).heap.size = w.heap.size + 1 := by simp
  have Z1 := Lib.hid z1
  generalize w.alloc (.cells #[.int .i64 nd, .int .i64 k, .int .i64 sz, .int .i64 du, .bool ch] 26) = w1 at b1 c0 c1 c2 c3 c4 Z1 ⊢
  clear z1 C0
  go_region_held3 (fun w' => w'.cell? ⟨w.heap.size, 0, none⟩ = some (.int .i64 nd) ∧ w'.cell? ⟨w.heap.size, 1, none⟩ = some (.int .i64 k) ∧ w'.cell? ⟨w.heap.size, 2, none⟩ = some (.int .i64 sz) ∧ w'.cell? ⟨w.heap.size, 3, none⟩ = some (.int .i64 du) ∧ w'.cell? ⟨w.heap.size, 4, none⟩ = some (.bool ch)) (go_keep) ((go_at_call 114; refine (i_oneIf ch _).mono ?_; rintro e w' ⟨rfl, rfl⟩))
  go_wp2
  go_ret
  have y1 := Z1.out
  have a0 : IntKind.i64.wrap (k * 64) = k * 64 := IntWalk.i64_in _ (by omega)
  have a1 : IntKind.i64.wrap (k * 64 + sz) = k * 64 + sz := IntWalk.i64_in _ (by omega)
  have a2 : du.tdiv 256 = du / 256 := Int.tdiv_eq_ediv_of_nonneg h4
  have a3 : du.tmod 256 = du % 256 := Int.tmod_eq_emod_of_nonneg h4
  have a4 : IntKind.i64.wrap (du / 256) = du / 256 := IntWalk.i64_in _ (by omega)
  refine ⟨_, rfl, ?_, ?_⟩
  · simp only [a0, a1, a2, a3, a4]
    exact lit_own' w1 (descL nd k sz du ch) _ _ rfl (by omega) (by simp [descL])
  · exact (b1.alloc (by omega) _).drew
theorem i_DescriptorToBytes (nd k sz du : Int) (ch : Bool) (w : World) :
    Calls Try.prog 18 #[.agg #[.int .i64 nd, .int .i64 k, .int .i64 sz, .int .i64 du, .bool ch]] w fun e w' => ∃ v, e = .returned (.tuple #[v, .int .i64 (descC nd k sz du ch)]) ∧ IOwn w' w.heap.size v (descR nd k sz du ch) ∧ Below w.heap.size w w' := by
  cases hd : descOk nd k sz du ch
  · rw [show descR nd k sz du ch = [] by simp [descR, hd], show descC nd k sz du ch = 1 by simp [descC, hd]]
    go_enter Try.func18, Try.ntmps18
    go_wp2_with fail
    refine (i_IsDescriptor _ _ _ _ _ _).mono ?_
    rintro e w1 ⟨rfl, b1⟩
    go_wp2
    go_ret2
    exact ⟨_, rfl, IOwn.nil _ _, ((Below.refl _ _).alloc (Nat.le_refl _) _).trans (b1.mono (by simp))⟩
  · rw [show descR nd k sz du ch = descL nd k sz du ch by simp [descR, hd], show descC nd k sz du ch = 0 by simp [descC, hd]]
    obtain ⟨_, _, h3, h4, _, h5, h6, h7, h8⟩ := desc_bd hd
    have hz := cellsZ_bd (k := k) h5 h6
    go_enter Try.func18, Try.ntmps18
    go_wp2_with fail
    refine (i_IsDescriptor _ _ _ _ _ _).mono ?_
    rintro e w1 ⟨rfl, b1⟩
    have hblk := b1.block w.heap.size (by simp)
    rw [show (w.alloc (.cells #[.int .i64 nd, .int .i64 k, .int .i64 sz, .int .i64 du, .bool ch] 26)).heap[w.heap.size]? = _ from heap_alloc_new w _] at hblk
    obtain ⟨c0, c1, c2, c3, c4⟩ := desc_cells hblk
    have z1 := b1.size
    have B1 := ((Below.refl w.heap.size w).alloc (Nat.le_refl _) _).trans (b1.mono (by simp))
    clear hblk b1
    go_wp2_with fail
    refine (i_descriptorBytes nd k sz du ch _ h3 h4 (by omega) (by omega) (by omega) (by omega)).mono ?_
    rintro e w2 ⟨v, rfl, o2, b2⟩
    simp at z1
    go_wp2
    go_ret2
    exact ⟨_, rfl, o2.less (by omega), B1.trans (b2.mono (by omega))⟩
theorem s_DescriptorToBytes (nd k sz du : Int) (ch : Bool) (w : World) :
    Calls Try.prog 17 #[.agg #[.int .i64 nd, .int .i64 k, .int .i64 sz, .int .i64 du, .bool ch]] w fun e w' => ∃ v, e = .returned (.tuple #[v, .int .i64 (descC nd k sz du ch)]) ∧ IOwn w' w.heap.size v (descR nd k sz du ch) ∧ Below w.heap.size w w' := by
  cases hd : descOk nd k sz du ch
  · rw [show descR nd k sz du ch = [] by simp [descR, hd], show descC nd k sz du ch = 1 by simp [descC, hd]]
    go_enter Try.func17, Try.ntmps17
    go_wp2_with fail
    refine (s_IsDescriptor _ _ _ _ _ _).mono ?_
    rintro e w1 ⟨rfl, b1⟩
    go_wp2
    go_ret2
    exact ⟨_, rfl, IOwn.nil _ _, ((Below.refl _ _).alloc (Nat.le_refl _) _).trans (b1.mono (by simp))⟩
  · rw [show descR nd k sz du ch = descL nd k sz du ch by simp [descR, hd], show descC nd k sz du ch = 0 by simp [descC, hd]]
    obtain ⟨_, _, h3, h4, _, h5, h6, h7, h8⟩ := desc_bd hd
    have hz := cellsZ_bd (k := k) h5 h6
    go_enter Try.func17, Try.ntmps17
    go_wp2_with fail
    refine (s_IsDescriptor _ _ _ _ _ _).mono ?_
    rintro e w1 ⟨rfl, b1⟩
    have hblk := b1.block w.heap.size (by simp)
    rw [show (w.alloc (.cells #[.int .i64 nd, .int .i64 k, .int .i64 sz, .int .i64 du, .bool ch] 26)).heap[w.heap.size]? = _ from heap_alloc_new w _] at hblk
    obtain ⟨c0, c1, c2, c3, c4⟩ := desc_cells hblk
    have z1 := b1.size
    have B1 := ((Below.refl w.heap.size w).alloc (Nat.le_refl _) _).trans (b1.mono (by simp))
    clear hblk b1
    go_wp2_with fail
    refine (s_l08Bytes nd k sz du ch _ h3 h4 (by omega) (by omega) (by omega) (by omega)).mono ?_
    rintro e w2 ⟨v, rfl, o2, b2⟩
    simp at z1
    go_wp2
    go_ret2
    exact ⟨_, rfl, o2.less (by omega), B1.trans (b2.mono (by omega))⟩
end Go.Proofs.Ytecelofoffdjlaa

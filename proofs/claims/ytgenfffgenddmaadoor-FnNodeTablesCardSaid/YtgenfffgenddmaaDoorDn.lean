/- A number's decimal text, as the draws make it. -/
import Derived.Test.YtgenfffgenddmaaDoorDrawK
import Derived.Test.YtgenfffgenddmaaDoorNod12
import Derived.Deep.RegionWith
namespace Go.Proofs.YtgenfffgenddmaaDoor
open Go.RowKit
set_option linter.unusedSimpArgs false
set_option linter.unusedVariables false
theorem conv1b (w : World) (g : Nat) (b : Int) (h0 : 0 ≤ b) (h1 : b ≤ 255) (h : w.heap[g]? = some (.cells #[.int .u8 b] 5 (0, 0))) : (convert 53 9 (.slice (some ⟨g, 0, none⟩) 1 1)).run Tryd.prog w = .ok (.string ⟨#[UInt8.ofNat b.toNat]⟩) w := by
  have := run_convert_bytes_back (P := Tryd.prog) w 53 9 5 ⟨g, 0, none⟩ 1 [UInt8.ofNat b.toNat] Tryd.underlying53 Tryd.underlying5 Tryd.underlying9 (fun j hj => by
    have : j = 0 := by simpa using hj
    subst this
    have e : (b.toNat % 256 : Nat) = b.toNat := by omega
    rw [show ((⟨g, 0, none⟩ : Addr).add 0) = ⟨g, 0, none⟩ from rfl]
    rw [cell_of_row _ _ _ _ _ _ h]
    simp
    omega)
  exact this
def SzStr (m : Nat) (w : World) (e : Ending) (w' : World) : Prop := ∃ s : ByteArray, e = .returned (.string s) ∧ s.size = m ∧ Below w.heap.size w w'
set_option maxRecDepth 100000 in
theorem s_l01Dec1 (k : Int) (w : World) (h0 : 0 ≤ k) (h1 : k < 10) : Calls Tryd.prog 89 #[.int .i64 k] w (SzStr 1 w) := by
  have HC := conv1 w (48 + k) (by omega) (by omega)
  go_enter Tryd.func89, Tryd.ntmps89
  go_wp2
  go_ret
  exact ⟨_, rfl, rfl, (Below.refl _ _).alloc (Nat.le_refl _) _⟩
set_option maxRecDepth 100000 in
set_option maxHeartbeats 2000000 in
theorem s_l01Dec2 (k : Int) (w : World) (h0 : 10 ≤ k) (h1 : k < 100) : Calls Tryd.prog 89 #[.int .i64 k] w (SzStr 2 w) := by
  have hd : k.tdiv 10 = k / 10 := Int.tdiv_eq_ediv_of_nonneg (by omega)
  have he : k.tmod 10 = k % 10 := Int.tmod_eq_emod_of_nonneg (by omega)
  have hw1 : IntKind.i64.wrap (k / 10) = k / 10 := IntWalk.i64_in _ (by omega)
  have hw2 : IntKind.i64.wrap (48 + k % 10) = 48 + k % 10 := IntWalk.i64_in _ (by omega)
  have hw3 : IntKind.u8.wrap (48 + k % 10) = 48 + k % 10 := by simp [IntKind.wrap, IntKind.signed, IntKind.bits]; omega
  have hR := Lib.hid (fun W => s_l01Dec1 (k / 10) W (by omega) (by omega))
  have HB := Lib.hid (fun W g h => conv1b W g (48 + k % 10) (by omega) (by omega) h)
  have b0 : 0 ≤ 48 + k % 10 := by omega
  have b1 : 48 + k % 10 ≤ 255 := by omega
  have Hd := Lib.hid (fun W => conv1 W (48 + k % 10) b0 b1)
  generalize k / 10 = x at *
  go_enter Tryd.func89, Tryd.ntmps89
  go_upto_region 3 with fail
  have C0 : (convert 53 9 (.slice (some ⟨w.heap.size, 0, none⟩) 1 1)).run Tryd.prog (w.alloc (.cells #[.int .u8 (48 + k % 10)] 5)).drew = .ok (.string ⟨#[UInt8.ofNat (48 + k % 10).toNat]⟩) (w.alloc (.cells #[.int .u8 (48 + k % 10)] 5)).drew := Hd.out w.drew
  have C1 := Hd.out w
  have R0 : ∀ W : World, (W.alloc (.cells #[.int .u8 (48 + k % 10)] 5)).heap[W.heap.size]? = some (.cells #[.int .u8 (48 + k % 10)] 5 (0, 0)) := fun W => heap_alloc_new W _
  go_region_with ((go_at_call 89; refine (hR.out _).mono ?_; rintro e w2 ⟨s1, rfl, z1, b2⟩; have D1 := Hd.out w2; have hz : ¬ 9223372036854775807 < s1.size + 1 := (by omega); first | (have D3 := HB.out w2 w.heap.size ((b2.block w.heap.size (by simp)).trans (R0 w.drew))) | skip))
  all_goals (try go_wp2)
  all_goals go_ret
  all_goals (refine ⟨_, rfl, by rw [ByteArray.size_append, z1]; rfl, ?_⟩)
  all_goals first
    | exact (((Below.refl w.heap.size w).drew.alloc (Nat.le_refl _) _).trans (b2.mono (by simp)))
    | exact (((Below.refl w.heap.size w).drew.trans b2).alloc b2.size _)
end Go.Proofs.YtgenfffgenddmaaDoor

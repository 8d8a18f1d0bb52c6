/- Nodes that hold their marks. -/
import Derived.Test.YtgenfffgenddmaaDoorNod15
import Derived.Lib.QuietBelow
import Derived.BigQuiet
namespace Go.Proofs.YtgenfffgenddmaaDoor
open Go.RowKit
set_option linter.unusedSimpArgs false
set_option linter.unusedVariables false
set_option maxHeartbeats 2000000 in
set_option maxRecDepth 100000 in
theorem h_heldNodesN (A : Option Addr) (n c : Nat) (B : Nat) (m : Int) (w : World) (h : NodesAt w B A n c (mkL m n)) (hB : B ≤ w.heap.size) (hm0 : 0 ≤ m) (hm1 : m ≤ 1) :
    Calls Tryd.prog 19 #[.slice A n c, .int .i64 m] w fun e w' => e = .returned (.int .i64 (m + 4 * n)) ∧ Below w.heap.size w w' := by
  have hn := h.2.2.1
  go_enter Tryd.func19, Tryd.ntmps19
  go_wp2
  go_loopw [1, 5] (fun q i wr => ∃ k : Nat, k ≤ n ∧ i = .int .i64 k ∧ q = .int .i64 (m + 4 * k) ∧ Below w.heap.size w wr) (fun _ i _ => n - (intOf i).toNat)
  case atStart => exact ⟨0, Nat.zero_le _, rfl, by simp, Below.refl _ _⟩
  case round =>
    obtain ⟨k, hk, rfl, rfl, hb⟩ := hrel
    have zb := hb.size
    by_cases hlt : k < n
    · obtain ⟨ad, d, rfl, hab, hd, cs, hs⟩ := h.at_ k hlt
      obtain rfl := Option.some.inj (hd.symm.trans (mkL_get (m := m) hlt))
      have HK := Lib.hid (fun (W : World) (b : Below w.heap.size w W) => cs.keep (w' := W) fun p hp => b.cell (by rw [hp]; omega))
      obtain ⟨c0, c1, c2, c3⟩ := HK.out wr hb
      simp only [mkNd] at c0 c1 c2 c3
      have hMT := Lib.hid (fun W => h_markTextN (m + 4 * k + 1) W (by omega) (by omega))
      have k0 : (0 : Int) ≤ (k : Int) := by omega
      have k1 : (k : Int) < (n : Int) := by omega
      have p1 : wrap64 (m + 4 * k + 1) = m + 4 * k + 1 := IntWalk.wrap64_in _ ⟨by omega, by omega⟩
      have p2 : wrap64 (m + 4 * k + 1 + 1) = m + 4 * k + 1 + 1 := IntWalk.wrap64_in _ ⟨by omega, by omega⟩
      have p3 : wrap64 (m + 4 * k + 1 + 1 + 1) = m + 4 * k + 1 + 1 + 1 := IntWalk.wrap64_in _ ⟨by omega, by omega⟩
      have p4 : wrap64 (m + 4 * k + 1 + 1 + 1 + 1) = m + 4 * k + 1 + 1 + 1 + 1 := IntWalk.wrap64_in _ ⟨by omega, by omega⟩
      have p5 : (m + 4 * k + 1 + 1 + 1).tmod 3 = (m + 4 * k + 1 + 1 + 1) % 3 := Int.tmod_eq_emod_of_nonneg (by omega)
      have HC : ∀ dd os, Calls Tryd.prog 50 #[.int .i64 (m + 4 * k + 1)] (Go.Sort.grow (redrawn wr dd) os) fun e w'' => e = .returned (.string (markTx (m + 4 * k + 1))) ∧ ∃ p : Regrown, w'' = Go.Sort.grow (redrawn wr p.d) p.os := fun dd os => Calls.regrown_of ((hMT.out _).mono fun e w' h => h)
      clear cs hd hs h
      go_upto_region 7 with fail
      replace c0 := cell_regrown c0
      replace c1 := cell_regrown c1
      clear c2 c3
      refine wp_region_quiet_below (by kernel_rfl) (by kernel_rfl) ?_
      repeat (first | go_big_quiet_step (exact HC _ _) | quiet_step (exact HC _ _))
      refine wpQuiet_nil ?_
      intro _ hw'
      obtain ⟨⟨dq, osq⟩, hw''⟩ := hw'
      subst hw''
      have b2 := hb.trans ((below_regrown wr dq osq).mono zb)
      generalize Go.Sort.grow (redrawn wr dq) osq = w2 at *
      obtain ⟨d0, d1, d2, d3⟩ := HK.out w2 b2
      simp only [mkNd] at d0 d1 d2 d3
      clear c0 c1 HC HK hMT hb
      generalize markTx (m + 4 * k + 1) = tx at *
      go_wp2
      go_roundw
      case rel => exact ⟨k + 1, by omega, by go_num, by congr 1; omega, b2⟩
      case measure => simp [intOf]; omega
    · obtain rfl : k = n := by omega
      go_wp2
      go_ret
      exact ⟨rfl, hb⟩
end Go.Proofs.YtgenfffgenddmaaDoor

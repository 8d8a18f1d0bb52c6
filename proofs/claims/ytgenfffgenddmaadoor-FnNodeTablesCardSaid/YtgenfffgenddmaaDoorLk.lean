/- Two tables compared by the law's likeNodes; the draw of NodeTableBytes. -/
import Derived.Test.YtgenfffgenddmaaDoorDn9
import Derived.Test.YtgenfffgenddmaaDoorWNtb
namespace Go.Proofs.YtgenfffgenddmaaDoor
open Go.RowKit
set_option linter.unusedSimpArgs false
set_option linter.unusedVariables false
set_option maxHeartbeats 2000000 in
set_option maxRecDepth 100000 in
theorem h_likeNodes (A A' : Option Addr) (n c c' : Nat) (L : List Nd) (B B' : Nat) (w : World) (h : NodesAt w B A n c L) (h' : NodesAt w B' A' n c' L) :
    Calls Tryd.prog 42 #[.slice A n c, .slice A' n c'] w fun e w' => e = .returned (.bool true) ∧ ∃ m, w' = w.drewN m := by
  have hn := h.2.2.1
  have hq : ((n : Int) != (n : Int)) = false := by simp
  go_enter Tryd.func42, Tryd.ntmps42
  go_wp2
  go_loopw [5] (fun i wr => ∃ k : Nat, k ≤ n ∧ i = .int .i64 k ∧ ∃ m, wr = w.drewN m) (fun i _ => n - (intOf i).toNat)
  case atStart => exact ⟨0, Nat.zero_le _, rfl, 0, rfl⟩
  case round =>
    obtain ⟨k, hk, rfl, m, rfl⟩ := hrel
    by_cases hlt : k < n
    · obtain ⟨ad, d, rfl, hab, hd, cs, -⟩ := h.at_ k hlt
      obtain ⟨ad', d', rfl, hab', hd', cs', -⟩ := h'.at_ k hlt
      obtain rfl := Option.some.inj (hd.symm.trans hd')
      obtain ⟨c0, c1, c2, c3⟩ := cs
      obtain ⟨d0, d1, d2, d3⟩ := cs'
      clear hd hd' h h'
      obtain ⟨i, s, r, p⟩ := d
      simp only at c0 c1 c2 c3 d0 d1 d2 d3
      have b0 : (0 : Int) ≤ (k : Int) := by omega
      have b1 : (k : Int) < (n : Int) := by omega
      go_wp2
      go_quiet (fail)
      go_wp2
      go_roundw
      case rel => exact ⟨k + 1, by omega, by go_num, _, by first | rfl | exact World.drewN_drewN _ _ _⟩
      case measure => simp [intOf]; omega
    · go_wp2
      go_ret
      exact ⟨rfl, _, rfl⟩
def DrewO (w : World) (e : Ending) (w' : World) : Prop := ∃ (A : Option Addr) (n c : Nat) (L : List Nd), e = .returned (.slice A n c) ∧ NodesAt w' w'.heap.size A n c L ∧ n ≤ 7 ∧ Below w.heap.size w w'
set_option maxRecDepth 100000 in
theorem s_DrawNodeTableBytes (A : Option Addr) (n c : Nat) (bs : List Int) (B : Nat) (w : World) (h : BytesAt w B A n c bs) (hB : B ≤ w.heap.size) :
    Calls Tryd.prog 39 #[.slice A n c] w (DrewO w) := by
  go_enter Tryd.func39, Tryd.ntmps39
  go_wp2_with fail
  refine (s_l01From _ _ _ _ _ _ h hB).mono ?_
  rintro e w1 ⟨g, rfl, S1, hg, hb⟩
  have hl := S1.lt
  go_wp2_with fail
  refine (s_l10DrawAny g B _ S1).mono ?_
  rintro e w2 ⟨v, L, rfl, N2, l1, l2, hnm⟩
  obtain ⟨A', n', c', rfl, HN⟩ := N2.nodes (by omega) hnm
  go_wp2
  go_ret
  exact ⟨_, _, _, L, rfl, HN, by rw [← HN.1]; omega, N2.under hb hg⟩
end Go.Proofs.YtgenfffgenddmaaDoor

/- The laws' dice: only the range of what is thrown is said. -/
import Derived.Test.YtjheanonklgbcaaDraw
namespace Go.Proofs.Ytjheanonklgbcaa
open Go.RowKit
set_option linter.unusedSimpArgs false
set_option linter.unusedVariables false
def Dice (w : World) (B g : Nat) : Prop :=
  B ≤ g ∧ ∃ (A : Option Addr) (n c : Nat) (bs : List Int) (p : Nat) (h : Int), BytesAt w B A n c bs ∧ p ≤ n ∧
    w.heap[g]? = some (.cells #[.slice A n c, .int .i64 p, .int .u64 h] 64 (0, 0))
theorem Dice.lt {w : World} {B g : Nat} (h : Dice w B g) : g < w.heap.size := by
  obtain ⟨_, A, n, c, bs, p, x, _, _, hh⟩ := h
  rcases Nat.lt_or_ge g w.heap.size with hlt | hge
  · exact hlt
  · rw [Array.getElem?_eq_none hge] at hh; cases hh
theorem Dice.kept {w w' : World} {B g : Nat} {row : Option Nat} (h : Dice w B g) (hg : w.grownBy w' row) (hne : row ≠ some g) (hr : ∀ k, row = some k → B ≤ k) : Dice w' B g := by
  have hlt := h.lt
  obtain ⟨hB, A, n, c, bs, p, x, hb, h1, hh⟩ := h
  exact ⟨hB, A, n, c, bs, p, x, hb.grown hg (by omega) hr, h1, (hg.block g hlt (fun e => hne e.symm)).trans hh⟩
theorem Dice.below {w w' : World} {B g : Nat} (h : Dice w B g) (hb : Below w.heap.size w w') : Dice w' B g :=
  h.kept (grown_of_below hb none) (by simp) (by simp)
theorem Dice.drewN {w : World} {B g : Nat} (h : Dice w B g) (k : Nat) : Dice (w.drewN k) B g := h
set_option maxHeartbeats 1000000 in
theorem h_roll (A : Option Addr) (n c : Nat) (bs : List Int) (sd : Int) (B : Nat) (w : World) (h : BytesAt w B A n c bs) (hB : B ≤ w.heap.size) :
    Calls Try.prog 33 #[.slice A n c, .int .u64 sd] w fun e w' => ∃ g, e = .returned (.pointer (some ⟨g, 0, none⟩)) ∧ Dice w' B g ∧ w.heap.size ≤ g ∧ Below w.heap.size w w' := by
  have hA := h
  obtain ⟨hl, hnc, hn, hbd, hc⟩ := h
  have Hl := Lib.hid hl; clear hl
  go_enter Try.func33, Try.ntmps33
  go_wp2
  go_loopw [6] (fun i wr => ∃ k : Nat, ∃ x : Int, k ≤ n ∧ i = .int .i64 k ∧ wr.heap[w.heap.size]? = some (.cells #[.slice A n c, .int .i64 0, .int .u64 x] 64 (0, 0)) ∧ Below w.heap.size w wr) (fun i _ => n - (intOf i).toNat)
  case atStart => exact ⟨0, _, Nat.zero_le _, rfl, heap_alloc_new w _, (Below.refl _ _).alloc (Nat.le_refl _) _⟩
  case round =>
    obtain ⟨k, seed, hk, rfl, hblk, hb⟩ := hrel
    by_cases h1 : k < n
    · obtain ⟨ad, rfl, hadb, hcell⟩ := hc (by omega)
      have hx : wr.cell? (ad.add k) = some (.int .u8 (bs.getD k 0)) := by rw [hb.cell (by rw [block_add]; omega)]; exact hcell k h1
      obtain ⟨hb0, hb1⟩ := hbd k h1
      generalize bs.getD k 0 = x at hx hb0 hb1
      have c0 : wr.cell? ⟨w.heap.size, 0, none⟩ = some (.slice (some ad) n c) := cell_of_row _ _ _ _ _ _ hblk
      have c2 : wr.cell? ⟨w.heap.size, 2, none⟩ = some (.int .u64 seed) := cell_of_row _ _ _ _ _ _ hblk
      have f2 : wr.frozen? ⟨w.heap.size, 2, none⟩ = false := frozen_of_row _ _ _ _ _ hblk
      have b1 : (k : Int) < (n : Int) := by omega
      clear hcell hc
      have Hblk := Lib.hid hblk; clear hblk
      go_wp2
      go_region
      go_wp2
      go_roundw
      case rel => exact ⟨k + 1, _, by omega, by go_num, one_set3 wr w.heap.size _ _ _ _ _ Hblk.out, (hb.setCell (p := ⟨w.heap.size, 2, none⟩) (Nat.le_refl _) _).drew⟩
      case measure => simp [intOf]; omega
    · have hfin : ∀ e w', (e = Ending.returned (.pointer (some ⟨w.heap.size, 0, none⟩)) ∧ w' = wr) → ∃ g, e = Ending.returned (.pointer (some ⟨g, 0, none⟩)) ∧ Dice w' B g ∧ w.heap.size ≤ g ∧ Below w.heap.size w w' := by
        rintro e w' ⟨rfl, rfl⟩
        exact ⟨_, rfl, ⟨hB, A, n, c, bs, 0, seed, hA.below' hB hb, Nat.zero_le _, hblk⟩, Nat.le_refl _, hb⟩
      have Hfin := Lib.hid hfin
      clear hblk hc hA hfin
      go_wp2
      go_ret
      exact Hfin.out _ _ ⟨rfl, rfl⟩
theorem dice_step {w w1 : World} {B g : Nat} (h : Dice w B g) (hg : w.grownBy w1 (some g)) {A : Option Addr} {n c : Nat} {bs : List Int} {p : Nat} {x : Int} (hb : BytesAt w B A n c bs) (h1 : p ≤ n)
    (hh : w1.heap[g]? = some (.cells #[.slice A n c, .int .i64 p, .int .u64 x] 64 (0, 0))) : Dice w1 B g :=
  ⟨h.1, A, n, c, bs, p, x, hb.grown hg (by have := h.lt; have := h.1; omega) (fun k hk => by injection hk with hk; have := h.1; omega), h1, hh⟩
theorem low24 (a : Int) : 0 ≤ bits .and .u64 a 16777215 ∧ bits .and .u64 a 16777215 ≤ 16777215 := by
  have e : bits .and .u64 a 16777215 = IntKind.u64.wrap ((BitVec.ofInt 64 a &&& BitVec.ofInt 64 16777215).toNat : Int) := rfl
  have h : (BitVec.ofInt 64 a &&& BitVec.ofInt 64 16777215).toNat ≤ 16777215 := by
    rw [BitVec.toNat_and]
    exact Nat.le_trans Nat.and_le_right (by decide)
  rw [e, IntKind.wrap_u64]
  omega
def Threw (B g : Nat) (w : World) (k : Int) (e : Ending) (w' : World) : Prop := ∃ r : Int, e = .returned (.int .i64 r) ∧ 0 ≤ r ∧ r < k ∧ Dice w' B g ∧ w.grownBy w' (some g)
theorem mod_bd1 (x k : Int) (hk : 0 < k) : 0 ≤ x % k ∧ x % k < k := ⟨Int.emod_nonneg _ (by omega), Int.emod_lt_of_pos _ (by omega)⟩
set_option maxHeartbeats 1000000 in
theorem h_below (g B : Nat) (k : Int) (w : World) (h : Dice w B g) (hk : 1 ≤ k) :
    Calls Try.prog 34 #[.pointer (some ⟨g, 0, none⟩), .int .i64 k] w (Threw B g w k) := by
  have hS := h
  have hlt := h.lt
  obtain ⟨hB, A, n, c, bs, p, seed, hby, hp, hblk⟩ := h
  have c0 : w.cell? ⟨g, 0, none⟩ = some (.slice A n c) := cell_of_row _ _ _ _ _ _ hblk
  have c1 : w.cell? ⟨g, 1, none⟩ = some (.int .i64 p) := cell_of_row _ _ _ _ _ _ hblk
  have c2 : w.cell? ⟨g, 2, none⟩ = some (.int .u64 seed) := cell_of_row _ _ _ _ _ _ hblk
  have f2 : w.frozen? ⟨g, 2, none⟩ = false := frozen_of_row _ _ _ _ _ hblk
  have Hblk := Lib.hid hblk
  clear hblk
  go_enter Try.func34, Try.ntmps34
  go_wp2
  generalize IntKind.u64.wrap (IntKind.u64.wrap (seed * 6364136223846793005) + 1442695040888963407) = H
  have hq := low24 (H / 8589934592)
  rw [IntWalk.wrap64_in (bits BinOp.and IntKind.u64 (H / 8589934592) 16777215) ⟨by omega, by omega⟩]
  generalize bits BinOp.and IntKind.u64 (H / 8589934592) 16777215 = q at hq ⊢
  obtain ⟨hq0, hq1⟩ := hq
  have e1 := one_set3 w g _ _ _ _ (.int .u64 H) Hblk.out
  have g1 : w.grownBy (w.setCell ⟨g, 2, none⟩ (.int .u64 H)) (some g) := grown_set (p := ⟨g, 2, none⟩) (World.grownBy.refl _ _) (.inl rfl) _
  have E1 := Lib.hid e1
  clear e1 c0 c1 c2 f2
  generalize w.setCell ⟨g, 2, none⟩ (.int .u64 H) = w1 at E1 g1 ⊢
  have S1 := dice_step hS g1 hby hp E1.out
  have hby1 := hby.grown g1 (by omega) (fun k hk => by injection hk with hk; omega)
  clear hS hby
  have c0 : w1.cell? ⟨g, 0, none⟩ = some (.slice A n c) := cell_of_row _ _ _ _ _ _ E1.out
  have c1 : w1.cell? ⟨g, 1, none⟩ = some (.int .i64 p) := cell_of_row _ _ _ _ _ _ E1.out
  have f1 : w1.frozen? ⟨g, 1, none⟩ = false := frozen_of_row _ _ _ _ _ E1.out
  by_cases hpn : p < n
  · obtain ⟨hl, hnc, hn, hbd, hc⟩ := hby1
    obtain ⟨ad, rfl, hadb, hcell⟩ := hc (by omega)
    have hx := hcell p hpn
    obtain ⟨hb0, hb1⟩ := hbd p hpn
    have hBy : BytesAt w1 B (some ad) n c bs := ⟨hl, hnc, hn, hbd, hc⟩
    generalize bs.getD p 0 = x at hx hb0 hb1
    have ep : (((p + 1 : Nat) : Int)) = (p : Int) + 1 := by omega
    have key : ∀ N, Dice ((w1.drewN N).setCell ⟨g, 1, none⟩ (.int .i64 ((p : Int) + 1))) B g ∧ w.grownBy ((w1.drewN N).setCell ⟨g, 1, none⟩ (.int .i64 ((p : Int) + 1))) (some g) := by
      intro N
      have e2 := one_set3b (w1.drewN N) g _ _ _ _ (.int .i64 ((p : Int) + 1)) E1.out
      have g2 : (w1.drewN N).grownBy ((w1.drewN N).setCell ⟨g, 1, none⟩ (.int .i64 ((p : Int) + 1))) (some g) := grown_set (p := ⟨g, 1, none⟩) (World.grownBy.refl _ _) (.inl rfl) _
      exact ⟨dice_step (w := w1.drewN N) S1 g2 hBy (p := p + 1) (by omega) (by rw [ep]; exact e2), grown_trans' (grown_drewN g1 N) g2 (.inl rfl)⟩
    have KEY := Lib.hid key
    clear key hcell hc hbd hl ep
    have b0 : (0 : Int) ≤ (p : Int) := by omega
    have b1 : (p : Int) < (n : Int) := by omega
    go_quiet (fail)
    go_wp2
    go_quiet (fail)
    go_wp2
    go_ret
    exact ⟨_, rfl, (mod_bd1 _ k (by omega)).1, (mod_bd1 _ k (by omega)).2, (KEY.out _).1, (KEY.out _).2⟩
  · go_quiet (fail)
    go_wp2
    go_ret
    exact ⟨_, rfl, (mod_bd1 _ k (by omega)).1, (mod_bd1 _ k (by omega)).2, S1.drewN _, grown_drewN g1 _⟩
end Go.Proofs.Ytjheanonklgbcaa

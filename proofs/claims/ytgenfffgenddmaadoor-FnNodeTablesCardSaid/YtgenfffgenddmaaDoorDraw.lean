/- The source of the draws: what the law's inputs are drawn from. Only ranges are said of what is drawn. -/
import Derived.Test.YtgenfffgenddmaaDoorHelp
import Derived.Test.YtgenfffgenddmaaDoorNum
import Derived.Test.YtgenfffgenddmaaDoorSc
import Derived.StillTailTactics
import Derived.BigRegion
import Derived.OneCell
namespace Go.Proofs.YtgenfffgenddmaaDoor
open Go.RowKit
set_option linter.unusedSimpArgs false
set_option linter.unusedVariables false

/-- A slice value of bytes that reads as the list bs, below block B. -/
def BytesAt (w : World) (B : Nat) (A : Option Addr) (n c : Nat) (bs : List Int) : Prop :=
  bs.length = n ∧ n ≤ c ∧ n ≤ 16777216 ∧ (∀ k, k < n → 0 ≤ bs.getD k 0 ∧ bs.getD k 0 ≤ 255) ∧ (0 < n → ∃ ad : Addr, A = some ad ∧ ad.block < B ∧ ∀ j, j < n → w.cell? (ad.add j) = some (.int .u8 (bs.getD j 0)))
section
variable {w w' : World} {B B' n c : Nat} {A : Option Addr} {bs : List Int}
theorem BytesAt.keep (h : BytesAt w B A n c bs) (hk : ∀ p : Addr, p.block < B → w'.cell? p = w.cell? p) : BytesAt w' B A n c bs :=
  ⟨h.1, h.2.1, h.2.2.1, h.2.2.2.1, fun hn => by
    obtain ⟨ad, e, hb, hc⟩ := h.2.2.2.2 hn
    exact ⟨ad, e, hb, fun j hj => (hk _ (by rw [block_add]; exact hb)).trans (hc j hj)⟩⟩
theorem BytesAt.below (h : BytesAt w B A n c bs) (hb : Below B w w') : BytesAt w' B A n c bs := h.keep fun _ hp => hb.cell hp
theorem BytesAt.below' (h : BytesAt w B A n c bs) (hB : B ≤ B') (hb : Below B' w w') : BytesAt w' B A n c bs := h.keep fun _ hp => hb.cell (by omega)
theorem BytesAt.drewN (h : BytesAt w B A n c bs) (k : Nat) : BytesAt (w.drewN k) B A n c bs := h
theorem BytesAt.grown (h : BytesAt w B A n c bs) {row : Option Nat} (hg : w.grownBy w' row) (hB : B ≤ w.heap.size) (hr : ∀ g, row = some g → B ≤ g) : BytesAt w' B A n c bs :=
  h.below (grown_below hg hB hr)
end
/-- What the frame of a law knows of an argument of type []byte. -/
def ArgBytes (w : World) (A : Option Addr) (n c : Nat) (bs : List Int) : Prop := n ≤ c ∧ c ≤ maxLen ∧ (n ≤ 16777216 → BytesAt w w.heap.size A n c bs)
theorem argBytes_nil (w : World) : ArgBytes w none 0 0 [] := ⟨Nat.le_refl _, by unfold maxLen; omega, fun _ => ⟨rfl, Nat.le_refl _, by omega, fun k hk => by omega, fun hn => by omega⟩⟩
theorem argBytes_mk {w : World} {x : Addr} {l c : Nat} {zs : List Int} (hl : l ≤ c) (hm : c ≤ maxLen) (hz : zs.length = c) (hcell : ∀ i, i < zs.length → w.cell? (x.add i) = some (.int .u8 (zs.getD i 0)))
    (hwz : ∀ n ∈ zs, (Lit.int .u8 n).wf = true) : ArgBytes w (some x) l c (zs.take l) := by
  have hget : ∀ j, j < l → (zs.take l).getD j 0 = zs.getD j 0 := by
    intro j hj; simp [List.getD_eq_getElem?_getD, List.getElem?_take, hj]
  refine ⟨hl, hm, fun hs => ⟨by rw [List.length_take]; omega, hl, hs, fun j hj => ?_, fun hn => ⟨x, rfl, ?_, fun j hj => ?_⟩⟩⟩
  · rw [hget j hj]
    have hm : zs.getD j 0 ∈ zs := by
      rw [List.getD_eq_getElem?_getD, List.getElem?_eq_getElem (show j < zs.length by omega)]; exact List.getElem_mem _
    have hw := hwz _ hm
    simp [Lit.wf, IntKind.min, IntKind.max, IntKind.signed, IntKind.bits] at hw
    rw [List.getD_eq_getElem?_getD]; omega
  · have := cell_lt (hcell 0 (by omega)); rwa [block_add] at this
  · rw [hcell j (by omega), hget j hj]

/-- Block g is a source over bytes below block B. -/
def Src (w : World) (B g : Nat) : Prop :=
  B ≤ g ∧ ∃ (A : Option Addr) (n c : Nat) (bs : List Int) (p : Nat) (seed : Int), BytesAt w B A n c bs ∧ p ≤ n ∧ 0 ≤ seed ∧ seed ≤ 2147483646 ∧
    w.heap[g]? = some (.cells #[.slice A n c, .int .i64 p, .int .i64 seed] 97 (0, 0))
theorem Src.lt {w : World} {B g : Nat} (h : Src w B g) : g < w.heap.size := by
  obtain ⟨_, A, n, c, bs, p, seed, _, _, _, _, hh⟩ := h
  rcases Nat.lt_or_ge g w.heap.size with hlt | hge
  · exact hlt
  · rw [Array.getElem?_eq_none hge] at hh; cases hh
theorem Src.kept {w w' : World} {B g : Nat} {row : Option Nat} (h : Src w B g) (hg : w.grownBy w' row) (hne : row ≠ some g) (hr : ∀ k, row = some k → B ≤ k) : Src w' B g := by
  have hlt := h.lt
  obtain ⟨hB, A, n, c, bs, p, seed, hb, h1, h2, h3, hh⟩ := h
  exact ⟨hB, A, n, c, bs, p, seed, hb.grown hg (by omega) hr, h1, h2, h3, (hg.block g hlt (fun e => hne e.symm)).trans hh⟩
theorem Src.below {w w' : World} {B g : Nat} (h : Src w B g) (hb : Below w.heap.size w w') : Src w' B g :=
  h.kept (grown_of_below hb none) (by simp) (by simp)
theorem Src.drewN {w : World} {B g : Nat} (h : Src w B g) (k : Nat) : Src (w.drewN k) B g := h
theorem Src.alloc {w : World} {B g : Nat} (h : Src w B g) (o : Obj) : Src (w.alloc o) B g := h.below ((Below.refl _ _).alloc (Nat.le_refl _) _)
theorem one_set3 (w : World) (g : Nat) (a b c : Value) (t : TypeId) (v : Value) (h : w.heap[g]? = some (.cells #[a, b, c] t (0, 0))) : (w.setCell ⟨g, 2, none⟩ v).heap[g]? = some (.cells #[a, b, v] t (0, 0)) := by
  rw [heap_setCell_same w g 2 _ t v h]; rfl
theorem one_set3b (w : World) (g : Nat) (a b c : Value) (t : TypeId) (v : Value) (h : w.heap[g]? = some (.cells #[a, b, c] t (0, 0))) : (w.setCell ⟨g, 1, none⟩ v).heap[g]? = some (.cells #[a, v, c] t (0, 0)) := by
  rw [heap_setCell_same w g 1 _ t v h]; rfl
theorem getD_lt' (xs : List Int) (k : Nat) (h : k < xs.length) : xs.getD k 0 = xs[k] := by simp [List.getD_eq_getElem?_getD, List.getElem?_eq_getElem h]
set_option maxHeartbeats 1000000 in
theorem s_l01From (A : Option Addr) (n c : Nat) (bs : List Int) (B : Nat) (w : World) (h : BytesAt w B A n c bs) (hB : B ≤ w.heap.size) :
    Calls Tryd.prog 66 #[.slice A n c] w fun e w' => ∃ g, e = .returned (.pointer (some ⟨g, 0, none⟩)) ∧ Src w' B g ∧ w.heap.size ≤ g ∧ Below w.heap.size w w' := by
  have hA := h
  obtain ⟨hl, hnc, hn, hbd, hc⟩ := h
  have Hl := Lib.hid hl; clear hl
  go_enter Tryd.func66, Tryd.ntmps66
  go_wp2
  go_loopw [4] (fun i wr => ∃ k : Nat, ∃ seed : Int, k ≤ n ∧ i = .int .i64 k ∧ 0 ≤ seed ∧ seed ≤ 2147483646 ∧ wr.heap[w.heap.size]? = some (.cells #[.slice A n c, .int .i64 0, .int .i64 seed] 97 (0, 0)) ∧ Below w.heap.size w wr) (fun i _ => n - (intOf i).toNat)
  case atStart => exact ⟨0, 40009, Nat.zero_le _, rfl, by omega, by omega, heap_alloc_new w _, (Below.refl _ _).alloc (Nat.le_refl _) _⟩
  case round =>
    obtain ⟨k, seed, hk, rfl, hs0, hs1, hblk, hb⟩ := hrel
    by_cases hlt : k < n ∧ k < 64
    · obtain ⟨h1, h2⟩ := hlt
      obtain ⟨ad, rfl, hadb, hcell⟩ := hc (by omega)
      have hx : wr.cell? (ad.add k) = some (.int .u8 (bs.getD k 0)) := by rw [hb.cell (by rw [block_add]; omega)]; exact hcell k h1
      obtain ⟨hb0, hb1⟩ := hbd k h1
      generalize bs.getD k 0 = x at hx hb0 hb1
      have c0 : wr.cell? ⟨w.heap.size, 0, none⟩ = some (.slice (some ad) n c) := cell_of_row _ _ _ _ _ _ hblk
      have c2 : wr.cell? ⟨w.heap.size, 2, none⟩ = some (.int .i64 seed) := cell_of_row _ _ _ _ _ _ hblk
      have f2 : wr.frozen? ⟨w.heap.size, 2, none⟩ = false := frozen_of_row _ _ _ _ _ hblk
      have b1 : (k : Int) < (n : Int) := by omega
      clear hcell hc
      have Hblk := Lib.hid hblk; clear hblk
      go_wp2
      go_region
      have hnew := one_set3 wr w.heap.size (.slice (some ad) n c) (.int .i64 0) (.int .i64 seed) 97 (.int .i64 ((seed * 53 + x) % 2147483647)) Hblk.out
      have hb' : Below w.heap.size w (wr.setCell ⟨w.heap.size, 2, none⟩ (.int .i64 ((seed * 53 + x) % 2147483647))) := hb.setCell (p := ⟨w.heap.size, 2, none⟩) (Nat.le_refl _) _
      have Hnew := Lib.hid hnew; clear hnew
      go_wp2
      go_roundw
      case rel => exact ⟨k + 1, (seed * 53 + x) % 2147483647, by omega, by go_num, by omega, by omega, Hnew.out, hb'.drew⟩
      case measure => simp [intOf]; omega
    · have hfin : ∀ e w', (e = Ending.returned (.pointer (some ⟨w.heap.size, 0, none⟩)) ∧ w' = wr) → ∃ g, e = Ending.returned (.pointer (some ⟨g, 0, none⟩)) ∧ Src w' B g ∧ w.heap.size ≤ g ∧ Below w.heap.size w w' := by
        rintro e w' ⟨rfl, rfl⟩
        exact ⟨_, rfl, ⟨hB, A, n, c, bs, 0, seed, hA.below' hB hb, Nat.zero_le _, hs0, hs1, hblk⟩, Nat.le_refl _, hb⟩
      have Hfin := Lib.hid hfin
      clear hblk hc hA
      by_cases h1 : k < n
      · have h2 : ¬ k < 64 := fun h => hlt ⟨h1, h⟩
        clear hfin hlt
        go_wp2
        go_ret
        exact Hfin.out _ _ ⟨rfl, rfl⟩
      · clear hfin hlt
        go_wp2
        go_ret
        exact Hfin.out _ _ ⟨rfl, rfl⟩
/-- What a draw leaves: only the source has changed, and what is new. -/
theorem src_step {w w1 : World} {B g : Nat} (h : Src w B g) (hg : w.grownBy w1 (some g)) {A : Option Addr} {n c : Nat} {bs : List Int} {p : Nat} {seed : Int} (hb : BytesAt w B A n c bs) (h1 : p ≤ n) (h2 : 0 ≤ seed) (h3 : seed ≤ 2147483646)
    (hh : w1.heap[g]? = some (.cells #[.slice A n c, .int .i64 p, .int .i64 seed] 97 (0, 0))) : Src w1 B g :=
  ⟨h.1, A, n, c, bs, p, seed, hb.grown hg (by have := h.lt; have := h.1; omega) (fun k hk => by injection hk with hk; have := h.1; omega), h1, h2, h3, hh⟩
theorem mod_bd (x k : Int) (hk : 1 < k) : 0 ≤ x % k ∧ x % k < k := ⟨Int.emod_nonneg _ (by omega), Int.emod_lt_of_pos _ (by omega)⟩
def Drew (B g : Nat) (w : World) (k : Int) (e : Ending) (w' : World) : Prop := ∃ r : Int, e = .returned (.int .i64 r) ∧ 0 ≤ r ∧ (r < k ∨ r = 0) ∧ Src w' B g ∧ w.grownBy w' (some g)
set_option maxHeartbeats 1000000 in
theorem s_l01Next (g B : Nat) (k : Int) (w : World) (h : Src w B g) :
    Calls Tryd.prog 69 #[.pointer (some ⟨g, 0, none⟩), .int .i64 k] w (Drew B g w k) := by
  by_cases hk : k ≤ 1
  · go_enter Tryd.func69, Tryd.ntmps69
    go_wp2
    go_ret
    exact ⟨0, rfl, by omega, .inr rfl, h, World.grownBy.refl _ _⟩
  · have hS := h
    have hlt := h.lt
    obtain ⟨hB, A, n, c, bs, p, seed, hby, hp, hs0, hs1, hblk⟩ := h
    obtain ⟨q, hq⟩ : ∃ q, q = (seed * 48271 + 17) % 2147483647 := ⟨_, rfl⟩
    have hq0 : 0 ≤ q := by omega
    have hq1 : q ≤ 2147483646 := by omega
    have Hq := Lib.hid hq; clear hq
    have c0 : w.cell? ⟨g, 0, none⟩ = some (.slice A n c) := cell_of_row _ _ _ _ _ _ hblk
    have c1 : w.cell? ⟨g, 1, none⟩ = some (.int .i64 p) := cell_of_row _ _ _ _ _ _ hblk
    have c2 : w.cell? ⟨g, 2, none⟩ = some (.int .i64 seed) := cell_of_row _ _ _ _ _ _ hblk
    have f2 : w.frozen? ⟨g, 2, none⟩ = false := frozen_of_row _ _ _ _ _ hblk
    have e1 := one_set3 w g _ _ _ _ (.int .i64 q) hblk
    have g1 : w.grownBy (w.setCell ⟨g, 2, none⟩ (.int .i64 q)) (some g) := grown_set (p := ⟨g, 2, none⟩) (World.grownBy.refl _ _) (.inl rfl) _
    have E1 := Lib.hid e1; have Hblk := Lib.hid hblk
    clear e1 hblk
    go_enter Tryd.func69, Tryd.ntmps69
    go_wp2
    rw [← Hq.out]
    generalize w.setCell ⟨g, 2, none⟩ (.int .i64 q) = w1 at E1 g1 ⊢
    have S1 := src_step hS g1 hby hp hq0 hq1 E1.out
    have hby1 := hby.grown g1 (by omega) (fun k hk => by injection hk with hk; omega)
    clear c0 c1 c2 f2 hS hby
    have c0 : w1.cell? ⟨g, 0, none⟩ = some (.slice A n c) := cell_of_row _ _ _ _ _ _ E1.out
    have c1 : w1.cell? ⟨g, 1, none⟩ = some (.int .i64 p) := cell_of_row _ _ _ _ _ _ E1.out
    have f1 : w1.frozen? ⟨g, 1, none⟩ = false := frozen_of_row _ _ _ _ _ E1.out
    by_cases hpn : p < n
    · obtain ⟨hl, hnc, hn, hbd, hc⟩ := hby1
      obtain ⟨ad, rfl, hadb, hcell⟩ := hc (by omega)
      have hx := hcell p hpn
      obtain ⟨hb0, hb1⟩ := hbd p hpn
      have hBy : BytesAt w1 B (some ad) n c bs := ⟨hl, hnc, hn, hbd, hc⟩
      generalize bs.getD p 0 = x at hx hb0 hb1
      have ep : (((p + 1 : Nat) : Int)) = (p : Int) + 1 := by omega
      have hx2 : ∀ N, ((w1.drewN N).setCell ⟨g, 1, none⟩ (.int .i64 ((p : Int) + 1))).cell? (ad.add p) = some (.int .u8 x) := by
        intro N
        rw [World.cell?_setCell_other _ _ _ _ (fun e => by have := congrArg Addr.block e; rw [block_add] at this; simp at this; omega)]; exact hx
      have key : ∀ N, Src ((w1.drewN N).setCell ⟨g, 1, none⟩ (.int .i64 ((p : Int) + 1))) B g ∧ w.grownBy ((w1.drewN N).setCell ⟨g, 1, none⟩ (.int .i64 ((p : Int) + 1))) (some g) := by
        intro N
        have e2 := one_set3b (w1.drewN N) g _ _ _ _ (.int .i64 ((p : Int) + 1)) E1.out
        have g2 : (w1.drewN N).grownBy ((w1.drewN N).setCell ⟨g, 1, none⟩ (.int .i64 ((p : Int) + 1))) (some g) := grown_set (p := ⟨g, 1, none⟩) (World.grownBy.refl _ _) (.inl rfl) _
        exact ⟨src_step (w := w1.drewN N) S1 g2 hBy (p := p + 1) (by omega) hq0 hq1 (by rw [ep]; exact e2), grown_trans' (grown_drewN g1 N) g2 (.inl rfl)⟩
      have HX2 := Lib.hid hx2; have KEY := Lib.hid key
      clear hx2 key hcell hc hbd hl ep
      have b0 : (0 : Int) ≤ (p : Int) := by omega
      have b1 : (p : Int) < (n : Int) := by omega
      have b2 : IntKind.i64.wrap ((p : Int) + 1 - 1) = (p : Int) := by rw [show (p : Int) + 1 - 1 = p by omega]; exact IntWalk.i64_in _ (by omega)
      go_quiet (fail)
      revert nq; intro N1
      go_wp2
      go_quiet (fail)
      revert nq; intro N2
      by_cases hk2 : k ≤ 256
      · by_cases hpar : ((p : Int) + 1) % 2 = 0
        · have hpar' : (((p : Int) + 1) % 2 == 0) = true := by simpa using hpar
          have Hpar := Lib.hid hpar; clear hpar
          go_wp2_with fail
          have hx3 := HX2.out (N1 + N2)
          go_quiet (fail)
          go_wp2
          go_ret
          exact ⟨_, rfl, (mod_bd _ k (by omega)).1, .inl (mod_bd _ k (by omega)).2, (KEY.out _).1.drewN _, grown_drewN (KEY.out _).2 _⟩
        · have hpar' : (((p : Int) + 1) % 2 == 0) = false := by simpa using hpar
          have Hpar := Lib.hid hpar; clear hpar
          go_wp2
          go_ret
          exact ⟨_, rfl, (mod_bd _ k (by omega)).1, .inl (mod_bd _ k (by omega)).2, (KEY.out _).1, (KEY.out _).2⟩
      · go_wp2
        go_ret
        exact ⟨_, rfl, (mod_bd _ k (by omega)).1, .inl (mod_bd _ k (by omega)).2, (KEY.out _).1, (KEY.out _).2⟩
    · go_quiet (fail)
      go_wp2
      go_ret
      exact ⟨_, rfl, (mod_bd _ k (by omega)).1, .inl (mod_bd _ k (by omega)).2, S1.drewN _, grown_drewN g1 _⟩
end Go.Proofs.YtgenfffgenddmaaDoor

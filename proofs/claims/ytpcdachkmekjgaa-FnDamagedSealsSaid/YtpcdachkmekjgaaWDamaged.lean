/- The walk of the law on wrong bits of sealed frames. -/
import Derived.Test.YtpcdachkmekjgaaDrawJ
import Derived.Test.YtpcdachkmekjgaaPSeal
import Derived.Test.YtpcdachkmekjgaaOFT
import Derived.Test.YtpcdachkmekjgaaToB
import Derived.Test.YtpcdachkmekjgaaDraw
import Derived.BigRegion
namespace Go.Proofs.Ytpcdachkmekjgaa
open Go.RowKit
set_option linter.unusedSimpArgs false
set_option linter.unusedVariables false
def Dice (w : World) (B g : Nat) : Prop :=
  B ≤ g ∧ ∃ (A : Option Addr) (n c : Nat) (bs : List Int) (p : Nat) (h : Int), BytesAt w B A n c bs ∧ p ≤ n ∧
    w.heap[g]? = some (.cells #[.slice A n c, .int .i64 p, .int .u64 h] 89 (0, 0))
theorem Dice.lt {w : World} {B g : Nat} (h : Dice w B g) : g < w.heap.size := by
  obtain ⟨_, A, n, c, bs, p, x, _, _, hh⟩ := h
  rcases Nat.lt_or_ge g w.heap.size with hlt | hge
  · exact hlt
  · rw [Array.getElem?_eq_none hge] at hh; cases hh
theorem Dice.kept {w w' : World} {B g : Nat} {row : Option Nat} (h : Dice w B g) (hg : w.grownBy w' row) (hne : row ≠ some g) (hr : ∀ k, row = some k → B ≤ k) : Dice w' B g := by
  have hlt := h.lt
  obtain ⟨hB, A, n, c, bs, p, x, hb, h1, hh⟩ := h
  exact ⟨hB, A, n, c, bs, p, x, hb.grown hg (by omega) hr, h1, (hg.block g hlt (fun e => hne e.symm)).trans hh⟩
theorem Dice.below {w w' : World} {B g : Nat} (h : Dice w B g) (hb : Below w.heap.size w w') : Dice w' B g :=
  h.kept (grown_of_below hb none) (by simp) (by simp)
theorem Dice.drewN {w : World} {B g : Nat} (h : Dice w B g) (k : Nat) : Dice (w.drewN k) B g := h
set_option maxHeartbeats 1000000 in
theorem h_roll (A : Option Addr) (n c : Nat) (bs : List Int) (sd : Int) (B : Nat) (w : World) (h : BytesAt w B A n c bs) (hB : B ≤ w.heap.size) :
    Calls Try.prog 49 #[.slice A n c, .int .u64 sd] w fun e w' => ∃ g, e = .returned (.pointer (some ⟨g, 0, none⟩)) ∧ Dice w' B g ∧ w.heap.size ≤ g ∧ Below w.heap.size w w' := by
  have hA := h
  obtain ⟨hl, hnc, hn, hbd, hc⟩ := h
  have Hl := Lib.hid hl; clear hl
  go_enter Try.func49, Try.ntmps49
  go_wp2
  go_loopw [6] (fun i wr => ∃ k : Nat, ∃ x : Int, k ≤ n ∧ i = .int .i64 k ∧ wr.heap[w.heap.size]? = some (.cells #[.slice A n c, .int .i64 0, .int .u64 x] 89 (0, 0)) ∧ Below w.heap.size w wr) (fun i _ => n - (intOf i).toNat)
  case atStart => exact ⟨0, _, Nat.zero_le _, rfl, heap_alloc_new w _, (Below.refl _ _).alloc (Nat.le_refl _) _⟩
  case round =>
    obtain ⟨k, seed, hk, rfl, hblk, hb⟩ := hrel
    by_cases h1 : k < n
    · obtain ⟨ad, rfl, hadb, hcell⟩ := hc (by omega)
      have hx : wr.cell? (ad.add k) = some (.int .u8 (bs.getD k 0)) := by rw [hb.cell (by rw [block_add]; omega)]; exact hcell k h1
      obtain ⟨hb0, hb1⟩ := hbd k h1
      generalize bs.getD k 0 = x at hx hb0 hb1
      have c0 : wr.cell? ⟨w.heap.size, 0, none⟩ = some (.slice (some ad) n c) := cell_of_row _ _ _ _ _ _ hblk
      have c2 : wr.cell? ⟨w.heap.size, 2, none⟩ = some (.int .u64 seed) := cell_of_row _ _ _ _ _ _ hblk
      have f2 : wr.frozen? ⟨w.heap.size, 2, none⟩ = false := frozen_of_row _ _ _ _ _ hblk
      have b1 : (k : Int) < (n : Int) := by omega
      clear hcell hc
      have Hblk := Lib.hid hblk; clear hblk
      go_wp2
      go_region
      go_wp2
      go_roundw
      case rel => exact ⟨k + 1, _, by omega, by go_num, one_set3 wr w.heap.size _ _ _ _ _ Hblk.out, (hb.setCell (p := ⟨w.heap.size, 2, none⟩) (Nat.le_refl _) _).drew⟩
      case measure => simp [intOf]; omega
    · have hfin : ∀ e w', (e = Ending.returned (.pointer (some ⟨w.heap.size, 0, none⟩)) ∧ w' = wr) → ∃ g, e = Ending.returned (.pointer (some ⟨g, 0, none⟩)) ∧ Dice w' B g ∧ w.heap.size ≤ g ∧ Below w.heap.size w w' := by
        rintro e w' ⟨rfl, rfl⟩
        exact ⟨_, rfl, ⟨hB, A, n, c, bs, 0, seed, hA.below' hB hb, Nat.zero_le _, hblk⟩, Nat.le_refl _, hb⟩
      have Hfin := Lib.hid hfin
      clear hblk hc hA hfin
      go_wp2
      go_ret
      exact Hfin.out _ _ ⟨rfl, rfl⟩
theorem dice_step {w w1 : World} {B g : Nat} (h : Dice w B g) (hg : w.grownBy w1 (some g)) {A : Option Addr} {n c : Nat} {bs : List Int} {p : Nat} {x : Int} (hb : BytesAt w B A n c bs) (h1 : p ≤ n)
    (hh : w1.heap[g]? = some (.cells #[.slice A n c, .int .i64 p, .int .u64 x] 89 (0, 0))) : Dice w1 B g :=
  ⟨h.1, A, n, c, bs, p, x, hb.grown hg (by have := h.lt; have := h.1; omega) (fun k hk => by injection hk with hk; have := h.1; omega), h1, hh⟩
theorem low24 (a : Int) : 0 ≤ bits .and .u64 a 16777215 ∧ bits .and .u64 a 16777215 ≤ 16777215 := by
  have e : bits .and .u64 a 16777215 = IntKind.u64.wrap ((BitVec.ofInt 64 a &&& BitVec.ofInt 64 16777215).toNat : Int) := rfl
  have h : (BitVec.ofInt 64 a &&& BitVec.ofInt 64 16777215).toNat ≤ 16777215 := by
    rw [BitVec.toNat_and]
    exact Nat.le_trans Nat.and_le_right (by decide)
  rw [e, IntKind.wrap_u64]
  omega
def Threw (B g : Nat) (w : World) (k : Int) (e : Ending) (w' : World) : Prop := ∃ r : Int, e = .returned (.int .i64 r) ∧ 0 ≤ r ∧ r < k ∧ Dice w' B g ∧ w.grownBy w' (some g)
theorem mod_bd1 (x k : Int) (hk : 0 < k) : 0 ≤ x % k ∧ x % k < k := ⟨Int.emod_nonneg _ (by omega), Int.emod_lt_of_pos _ (by omega)⟩
set_option maxHeartbeats 1000000 in
theorem h_below (g B : Nat) (k : Int) (w : World) (h : Dice w B g) (hk : 1 ≤ k) :
    Calls Try.prog 50 #[.pointer (some ⟨g, 0, none⟩), .int .i64 k] w (Threw B g w k) := by
  have hS := h
  have hlt := h.lt
  obtain ⟨hB, A, n, c, bs, p, seed, hby, hp, hblk⟩ := h
  have c0 : w.cell? ⟨g, 0, none⟩ = some (.slice A n c) := cell_of_row _ _ _ _ _ _ hblk
  have c1 : w.cell? ⟨g, 1, none⟩ = some (.int .i64 p) := cell_of_row _ _ _ _ _ _ hblk
  have c2 : w.cell? ⟨g, 2, none⟩ = some (.int .u64 seed) := cell_of_row _ _ _ _ _ _ hblk
  have f2 : w.frozen? ⟨g, 2, none⟩ = false := frozen_of_row _ _ _ _ _ hblk
  have Hblk := Lib.hid hblk
  clear hblk
  go_enter Try.func50, Try.ntmps50
  go_wp2
  generalize IntKind.u64.wrap (IntKind.u64.wrap (seed * 6364136223846793005) + 1442695040888963407) = H
  have hq := low24 (H / 8589934592)
  rw [IntWalk.wrap64_in (bits BinOp.and IntKind.u64 (H / 8589934592) 16777215) ⟨by omega, by omega⟩]
  generalize bits BinOp.and IntKind.u64 (H / 8589934592) 16777215 = q at hq ⊢
  obtain ⟨hq0, hq1⟩ := hq
  have e1 := one_set3 w g _ _ _ _ (.int .u64 H) Hblk.out
  have g1 : w.grownBy (w.setCell ⟨g, 2, none⟩ (.int .u64 H)) (some g) := grown_set (p := ⟨g, 2, none⟩) (World.grownBy.refl _ _) (.inl rfl) _
  have E1 := Lib.hid e1
  clear e1 c0 c1 c2 f2
  generalize w.setCell ⟨g, 2, none⟩ (.int .u64 H) = w1 at E1 g1 ⊢
  have S1 := dice_step hS g1 hby hp E1.out
  have hby1 := hby.grown g1 (by omega) (fun k hk => by injection hk with hk; omega)
  clear hS hby
  have c0 : w1.cell? ⟨g, 0, none⟩ = some (.slice A n c) := cell_of_row _ _ _ _ _ _ E1.out
  have c1 : w1.cell? ⟨g, 1, none⟩ = some (.int .i64 p) := cell_of_row _ _ _ _ _ _ E1.out
  have f1 : w1.frozen? ⟨g, 1, none⟩ = false := frozen_of_row _ _ _ _ _ E1.out
  by_cases hpn : p < n
  · obtain ⟨hl, hnc, hn, hbd, hc⟩ := hby1
    obtain ⟨ad, rfl, hadb, hcell⟩ := hc (by omega)
    have hx := hcell p hpn
    obtain ⟨hb0, hb1⟩ := hbd p hpn
    have hBy : BytesAt w1 B (some ad) n c bs := ⟨hl, hnc, hn, hbd, hc⟩
    generalize bs.getD p 0 = x at hx hb0 hb1
    have ep : (((p + 1 : Nat) : Int)) = (p : Int) + 1 := by omega
    have key : ∀ N, Dice ((w1.drewN N).setCell ⟨g, 1, none⟩ (.int .i64 ((p : Int) + 1))) B g ∧ w.grownBy ((w1.drewN N).setCell ⟨g, 1, none⟩ (.int .i64 ((p : Int) + 1))) (some g) := by
      intro N
      have e2 := one_set3b (w1.drewN N) g _ _ _ _ (.int .i64 ((p : Int) + 1)) E1.out
      have g2 : (w1.drewN N).grownBy ((w1.drewN N).setCell ⟨g, 1, none⟩ (.int .i64 ((p : Int) + 1))) (some g) := grown_set (p := ⟨g, 1, none⟩) (World.grownBy.refl _ _) (.inl rfl) _
      exact ⟨dice_step (w := w1.drewN N) S1 g2 hBy (p := p + 1) (by omega) (by rw [ep]; exact e2), grown_trans' (grown_drewN g1 N) g2 (.inl rfl)⟩
    have KEY := Lib.hid key
    clear key hcell hc hbd hl ep
    have b0 : (0 : Int) ≤ (p : Int) := by omega
    have b1 : (p : Int) < (n : Int) := by omega
    go_quiet (fail)
    go_wp2
    go_quiet (fail)
    go_wp2
    go_ret
    exact ⟨_, rfl, (mod_bd1 _ k (by omega)).1, (mod_bd1 _ k (by omega)).2, (KEY.out _).1, (KEY.out _).2⟩
  · go_quiet (fail)
    go_wp2
    go_ret
    exact ⟨_, rfl, (mod_bd1 _ k (by omega)).1, (mod_bd1 _ k (by omega)).2, S1.drewN _, grown_drewN g1 _⟩
theorem i_BytesToBits (A : Option Addr) (n c : Nat) (xs : List Int) (B : Nat) (w : World) (h : IntsAt w B A n c xs) (hB : B ≤ w.heap.size) (hb : ∀ x ∈ xs, 0 ≤ x ∧ x ≤ 255) (hn : n ≤ 1000) :
    Calls Try.prog 48 #[.slice A n c] w fun e w' => ∃ v, e = .returned (.tuple #[v, .int .i64 0]) ∧ IOwn w' w.heap.size v (bitsL xs) ∧ Below w.heap.size w w' := by
  have hl := h.len
  have hg : ∀ k, k < n → 0 ≤ xs.getD k 0 ∧ xs.getD k 0 ≤ 255 := fun k hk => by
    rw [List.getD_eq_getElem?_getD, List.getElem?_eq_getElem (by omega)]
    exact hb _ (List.getElem_mem _)
  have hok : bytesOk xs = true := by
    simp only [bytesOk, Bool.and_eq_true, decide_eq_true_eq]
    exact ⟨by omega, (allIn_iff _ 0 255).2 fun i hi => hg i (by omega)⟩
  have C1 := i_IsBytes A n c xs B w h
  rw [hok] at C1
  have C2 := Lib.hid (i_toBits A n c xs B w h hB hg (by omega))
  clear hok hg hb hl
  go_enter Try.func48, Try.ntmps48
  go_wp2_with (first
    | (go_at_call 58; refine C1.mono ?_; rintro e w' ⟨rfl, rfl⟩)
    | (go_at_call 90; refine C2.out.mono ?_; rintro e w2 ⟨u, rfl, o2, b2⟩))
  go_ret2
  exact ⟨_, rfl, o2, b2⟩
theorem i_BitsToBytes (A : Option Addr) (c : Nat) (xs : List Int) (B m : Nat) (w : World) (h : IntsAt w B A (8 * m) c xs) (hB : B ≤ w.heap.size) (hb : bit01 xs) (hm : 1 ≤ m) (hm2 : m ≤ 1000) :
    Calls Try.prog 51 #[.slice A ((8 * m : Nat)) c] w fun e w' => ∃ v, e = .returned (.tuple #[v, .int .i64 0]) ∧ IOwn w' w.heap.size v (bytesN xs m) ∧ Below w.heap.size w w' := by
  have hl := h.len
  have hok : bitsOk xs = true := by
    simp only [bitsOk, Bool.and_eq_true, decide_eq_true_eq]
    exact ⟨by omega, (allIn_iff _ 0 1).2 fun i hi => hb.getD i⟩
  have C1 := i_IsBits A (8 * m) c xs B w h
  rw [hok] at C1
  have C2 := Lib.hid (i_toBytes A c xs B m w h hB hb hm)
  have hr : Int.tmod ((8 * m : Nat) : Int) 8 = 0 := by rw [Int.tmod_eq_emod_of_nonneg (by omega)]; omega
  clear hok hb hl
  go_enter Try.func51, Try.ntmps51
  go_wp2_with (first
    | (go_at_call 91; refine C1.mono ?_; rintro e w' ⟨rfl, rfl⟩)
    | (go_at_call 92; refine C2.out.mono ?_; rintro e w2 ⟨u, rfl, o2, b2⟩))
  go_ret2
  exact ⟨_, rfl, o2, b2⟩
/-- Bits that differ from others in k places at most, and not in the first two. -/
def PB (b0 bs : List Int) (k : Nat) : Prop := bs.length = b0.length ∧ bit01 bs ∧ bs.getD 0 0 = b0.getD 0 0 ∧ bs.getD 1 0 = b0.getD 1 0 ∧ wt (xorL b0 bs) ≤ k
theorem PB.start {b0 : List Int} (h : bit01 b0) : PB b0 b0 0 := ⟨rfl, h, rfl, rfl, by rw [wt_self]; exact Nat.le_refl _⟩
theorem PB.set {b0 bs : List Int} {k i : Nat} {v : Int} (h : PB b0 bs k) (h0 : bit01 b0) (hi : 2 ≤ i) (hv : 0 ≤ v ∧ v < 2) : PB b0 (bs.set i v) (k + 1) := by
  obtain ⟨h1, h2, h3, h4, h5⟩ := h
  refine ⟨by rw [List.length_set]; exact h1, ?_, ?_, ?_, ?_⟩
  · intro x hx
    rcases List.mem_or_eq_of_mem_set hx with hx | rfl
    · exact h2 x hx
    · omega
  · rw [← h3, List.getD_eq_getElem?_getD, List.getD_eq_getElem?_getD, List.getElem?_set_ne (by omega)]
  · rw [← h4, List.getD_eq_getElem?_getD, List.getD_eq_getElem?_getD, List.getElem?_set_ne (by omega)]
  · have := wt_set b0 bs i v h0 (by omega); omega
theorem i_BitsToBytes' (A : Option Addr) (c N : Nat) (xs : List Int) (B m : Nat) (w : World) (h : IntsAt w B A N c xs) (hB : B ≤ w.heap.size) (hb : bit01 xs) (hN : N = 8 * m) (hm : 1 ≤ m) (hm2 : m ≤ 1000) :
    Calls Try.prog 51 #[.slice A N c] w fun e w' => ∃ v, e = .returned (.tuple #[v, .int .i64 0]) ∧ IOwn w' w.heap.size v (bytesN xs m) ∧ Below w.heap.size w w' := by
  subst hN
  exact i_BitsToBytes A c xs B m w h hB hb hm hm2
theorem i_Open' (A : Option Addr) (n c : Nat) (xs : List Int) (id T M R S V : Int) (B : Nat) (w : World) (h : IntsAt w B A n c xs) (hB : B ≤ w.heap.size) :
    Calls Try.prog 35 #[.slice A n c, .int .i64 id, .agg #[.int .i64 T, .int .i64 M, .int .i64 R, .int .i64 S, .int .i64 V]] w fun e w' => ∃ (k q t m r s v : Int) (A' : Option Addr) (n' c' : Nat), e = .returned (.tuple #[.agg #[.int .i64 k, .int .i64 q, .int .i64 t, .int .i64 m, .int .i64 r, .int .i64 s, .int .i64 v, .slice A' n' c'], .int .i64 (ofC xs id T M R S V)]) ∧ Below w.heap.size w w' := by
  refine (i_OpenFrame A n c xs id T M R S V B w h hB).mono ?_
  rintro e w' ⟨sl, rfl, o, b⟩
  obtain ⟨A', c', rfl, -, -, -⟩ := o.form
  exact ⟨_, _, _, _, _, _, _, _, _, _, rfl, b⟩
theorem dam_all {k q t m r s v : Int} {xs : List Int} {id T M R S V : Int} (h : slC (frOk k q t m r s v xs) (stOk T M R S V) id = 0) :
    (sealL k q t m r s v xs id T M R S V).length ≤ 1000 ∧ 4 ≤ (sealL k q t m r s v xs id T M R S V).length ∧ (∀ x ∈ sealL k q t m r s v xs id T M R S V, 0 ≤ x ∧ x ≤ 255) ∧
    (∀ bs, PB (bitsL (sealL k q t m r s v xs id T M R S V)) bs 3 → bytesN bs (sealL k q t m r s v xs id T M R S V).length ≠ sealL k q t m r s v xs id T M R S V →
      ofC (bytesN bs (sealL k q t m r s v xs id T M R S V).length) id T M R S V = 7) := by
  obtain ⟨h1, h2, h3⟩ := slC_zero h
  have hl := sealL_len k q t m r s v xs id T M R S V
  have hb := bodyL_ok h1
  have hs := body_small h1
  refine ⟨by omega, by omega, sealL_mem h1 h3, fun bs hp hne => ?_⟩
  obtain ⟨p1, p2, p3, p4, p5⟩ := hp
  exact damage h1 h2 h3 bs p2 (by rw [p1, bitsL_len]) p3 p4 p5 hne
set_option maxHeartbeats 8000000 in
theorem w_FnDamagedSeals (a0 : Option Addr) (len0 cap0 : Nat) (z0 : List Int) (w : World) (w0 : ArgBytes w a0 len0 cap0 z0) :
    Calls Try.prog 13 #[.slice a0 len0 cap0] w fun e w' => e = .returned (.bool true) ∧ Below w.heap.size w w' := by
  by_cases hbig : 4096 < len0
  · clear w0
    have hb : decide ((4096 : Int) < len0) = true := by simp; omega
    go_enter Try.func13, Try.ntmps13
    go_wp2_with (go_at_call 36; refine (h_big _ _ _ _).mono ?_; rintro e w' ⟨rfl, rfl⟩)
    go_ret
    exact ⟨rfl, Below.refl _ _⟩
  · have hI := w0.2.2 (by omega)
    have hb : decide ((4096 : Int) < len0) = false := by simp; omega
    clear w0
    go_enter Try.func13, Try.ntmps13
    go_wp2_with (go_at_call 36; refine (h_big _ _ _ _).mono ?_; rintro e w' ⟨rfl, rfl⟩)
    refine (s_DrawSealFrame _ _ _ _ _ _ hI (Nat.le_refl _)).mono ?_
    rintro e w1 ⟨k, q, t, m, r, s, v, A1, c1, xs, id, T, M, R, S, V, rfl, hx, I1, BW⟩
    clear hb hbig
    have z1 := BW.size
    obtain ⟨RF, RS⟩ := two_new w1 (.cells #[.int .i64 k, .int .i64 q, .int .i64 t, .int .i64 m, .int .i64 r, .int .i64 s, .int .i64 v, .slice A1 xs.length c1] 32) (.cells #[.int .i64 T, .int .i64 M, .int .i64 R, .int .i64 S, .int .i64 V] 30)
    replace I1 := (I1.alloc (Nat.le_refl _) (.cells #[.int .i64 k, .int .i64 q, .int .i64 t, .int .i64 m, .int .i64 r, .int .i64 s, .int .i64 v, .slice A1 xs.length c1] 32)).alloc (by simp) (.cells #[.int .i64 T, .int .i64 M, .int .i64 R, .int .i64 S, .int .i64 V] 30)
    replace BW := (BW.alloc z1 (.cells #[.int .i64 k, .int .i64 q, .int .i64 t, .int .i64 m, .int .i64 r, .int .i64 s, .int .i64 v, .slice A1 xs.length c1] 32)).alloc (by rw [World.size_alloc]; omega) (.cells #[.int .i64 T, .int .i64 M, .int .i64 R, .int .i64 S, .int .i64 V] 30)
    have HSS := Lib.hid (fun B W h hB => s_SealFrame k q t m r s v A1 xs.length c1 xs id T M R S V B W h hB)
    have HALL := Lib.hid (@dam_all k q t m r s v xs id T M R S V)
    have hLn : (if slC (frOk k q t m r s v xs) (stOk T M R S V) id = 0 then sealL k q t m r s v xs id T M R S V else []).length ≤ 1000 := by
      split
      · rename_i h; exact (dam_all h).1
      · simp
    have HL := Lib.hid (fun h : slC (frOk k q t m r s v xs) (stOk T M R S V) id = 0 => (if_pos h : (if slC (frOk k q t m r s v xs) (stOk T M R S V) id = 0 then sealL k q t m r s v xs id T M R S V else []) = _))
    generalize (if slC (frOk k q t m r s v xs) (stOk T M R S V) id = 0 then sealL k q t m r s v xs id T M R S V else []) = L at *
    generalize slC (frOk k q t m r s v xs) (stOk T M R S V) id = C at *
    generalize sealL k q t m r s v xs id T M R S V = L' at *
    go_upto_region 4 with fail
    generalize hgF : w1.heap.size = gF at *
    generalize World.alloc _ _ = W at *
    have yS := Below.lt_of' RS
    obtain ⟨c0, c1', c2, c3, c4, c5, c6, c7⟩ := fr_cells RF
    obtain ⟨s0, s1, s2, s3, s4⟩ := desc_cells RS
    go_wp2_with fail
    refine (HSS.out _ _ I1 (by omega)).mono ?_
    rintro e wa ⟨ua, rfl, oa, ba⟩
    obtain ⟨Aa, da, rfl, Ia⟩ := oa.ints (by omega)
    have za := ba.size
    replace RS := (ba.block (gF + 1) (by omega)).trans RS
    replace BW := BW.trans (ba.mono (by omega))
    clear ba oa HSS I1 RF
    clear c0 c1' c2 c3 c4 c5 c6 c7 s0 s1 s2 s3 s4
    by_cases hC : C = 0
    · subst hC
      obtain ⟨-, p2, p3, p4⟩ := HALL.out rfl
      have hLL := HL.out rfl
      subst hLL
      have P3 := Lib.hid p3
      have P4 := Lib.hid p4
      clear HALL HL p3 p4
      go_wp2_with fail
      refine (i_BytesToBits Aa L.length da L _ _ Ia (Nat.le_refl _) P3.out hLn).mono ?_
      rintro e wb ⟨ub, rfl, ob', bb⟩
      have hbl := bitsL_len L
      have h01 := Lib.hid (bitsL_mem L)
      have HP := Lib.hid (PB.start (bitsL_mem L))
      obtain ⟨b0, hb0⟩ : ∃ b0, b0 = bitsL L := ⟨_, rfl⟩
      rw [← hb0] at ob' hbl h01 HP
      have HB0 := Lib.hid hb0
      clear hb0
      obtain ⟨A', cb, rfl, hnc, hcm, hA⟩ := ob'.form
      rcases hA with ⟨_, hx2, _⟩ | ⟨ob, rfl, hob, hlt⟩
      · exfalso; rw [hx2] at hbl; simp at hbl; omega
      have zb := bb.size
      obtain ⟨N, hN⟩ : ∃ N, N = b0.length := ⟨_, rfl⟩
      rw [← hN] at hbl ob' hnc
      have hNi : (N : Int) = 8 * (L.length : Int) := by omega
      rw [← hN]
      have HBL := Lib.hid hbl
      have HN := Lib.hid hN
      clear hbl hN
      go_wp2_with fail
      refine (h_roll a0 len0 cap0 z0 701 w.heap.size _ (hI.below (BW.trans (bb.mono (by omega)))) (by have := BW.size; omega)).mono ?_
      rintro e wc ⟨g, rfl, DD, hg, bc⟩
      have zc := bc.size
      have oc := ob'.below_ bc
      have Bac := bb.trans (bc.mono zb)
      have yg := DD.lt
      have zBW := BW.size
      clear ob' bc bb
      have hne : ob ≠ g := by have := (oc.lt ob rfl).1; omega
      have hobw : w.heap.size ≤ ob := by omega
      clear hNi
      go_wp2_with fail
      go_loopw [11, 12] (fun i _ wr => ∃ kk : Nat, kk ≤ 3 ∧ i = .int .i64 kk ∧ ∃ bs : List Int, bs.length = N ∧ Hid (PB b0 bs kk) ∧ IOwn wr wa.heap.size (.slice (some ⟨ob, 0, none⟩) N cb) bs ∧ Dice wr w.heap.size g ∧ Below wa.heap.size wa wr) (fun i _ _ => 3 - (intOf i).toNat)
      case atStart => exact ⟨0, by omega, rfl, b0, HN.out.symm, HP, oc, DD, Bac⟩
      case round =>
        clear oc DD Bac yg hlt
        obtain ⟨kk, hkk, rfl, bs, hbs, PP, oc, DD, Bac⟩ := hrel
        have yg := DD.lt
        by_cases h3 : kk < 3
        · have HBS := Lib.hid hbs
          have hN30 : (30 : Int) ≤ (N : Int) := by have := HBL.out; omega
          have hN31 : (N : Int) ≤ 9000 := by have := HBL.out; omega
          clear hbs
          go_wp2_with fail
          refine (h_below g w.heap.size _ _ DD (by omega)).mono ?_
          rintro e wd ⟨r1, rfl, r10, r11, DD2, gd⟩
          have od := oc.kept gd (.inr (by intro e; simp only [Value.ownBlock] at e; injection e with e; exact hne e))
          have Bd := Bac.trans (grown_below gd Bac.size (fun q hq => by injection hq with hq; omega))
          obtain ⟨p, hp⟩ : ∃ p : Nat, 2 + r1 = (p : Int) := ⟨(2 + r1).toNat, by omega⟩
          have hp2 : 2 ≤ p := by omega
          have hpN : p < N := by omega
          clear DD oc gd Bac
          go_wp2_with fail
          refine (h_below g w.heap.size 2 _ DD2 (by omega)).mono ?_
          rintro e we ⟨r2, rfl, r20, r21, DD3, ge⟩
          have oe := od.kept ge (.inr (by intro e; simp only [Value.ownBlock] at e; injection e with e; exact hne e))
          have Be := Bd.trans (grown_below ge Bd.size (fun q hq => by injection hq with hq; omega))
          clear DD2 od ge Bd
          have hbs := HBS.out
          have hown : we.ownsRow wa.heap.size 2 1 (.slice (some ⟨ob, 0, none⟩) N cb) N (bs.map (Value.int .i64)) := by
            have h9 := oe; unfold IOwn at h9; rwa [hbs] at h9
          have hoc : we.cell? ⟨ob, p, none⟩ = some (.int .i64 (bs.getD p 0)) := by
            rw [hown.cellAt p (by omega), List.getElem?_map, List.getElem?_eq_getElem (by omega)]
            simp [List.getD_eq_getElem?_getD, List.getElem?_eq_getElem (show p < bs.length by omega)]
          have hof := hown.frozenAt p
          obtain ⟨hst, _⟩ := hown.stored p (.int .i64 r2)
          rw [← List.map_set] at hst
          have hst' : IOwn (we.setCell ⟨ob, p, none⟩ (.int .i64 r2)) wa.heap.size (.slice (some ⟨ob, 0, none⟩) N cb) (bs.set p r2) := by
            unfold IOwn; rw [List.length_set, hbs]; exact hst
          have HST := Lib.hid hst'
          have BB := Lib.hid (Be.setCell (p := ⟨ob, p, none⟩) (by show wa.heap.size ≤ ob; omega) (.int .i64 r2))
          have DX := Lib.hid (DD3.kept (grown_set (p := ⟨ob, p, none⟩) (World.grownBy.refl we (some ob)) (.inl rfl) (.int .i64 r2)) (by intro e; injection e with e; exact hne e) (fun q hq => by injection hq with hq; omega))
          have PX := Lib.hid (PP.out.set h01.out hp2 ⟨r20, r21⟩)
          obtain ⟨y, hy⟩ : ∃ y, y = bs.getD p 0 := ⟨_, rfl⟩
          rw [← hy] at hoc
          clear hst hst' hown oe Be DD3 PP hy hbs
          go_wp2
          go_roundw
          case rel => exact ⟨kk + 1, by omega, by go_num, bs.set p r2, by rw [List.length_set]; exact HBS.out, PX.out |> Lib.hid, HST.out, DX.out, BB.out⟩
          case measure => simp [intOf]; omega
        · have hk3 : kk = 3 := by omega
          have PP3 : PB b0 bs 3 := hk3 ▸ PP.out
          have h33 : (3 : Int) ≤ (kk : Int) := by omega
          clear hk3 hkk
          have QQ := PP3
          have hbl := HBL.out
          have hN := HN.out
          obtain ⟨q1, q2, q3, q4, q5⟩ := QQ
          have Ie : IntsAt wr wr.heap.size (some ⟨ob, 0, none⟩) N cb bs := by
            obtain ⟨A9, c9, e9, i9⟩ := oc.ints (by omega)
            injection e9 with e91 e92 e93
            subst e91 e93
            rwa [hbs] at i9
          have Q2 := Lib.hid q2
          have hdam : bytesN bs L.length = L ∨ (bytesN bs L.length ≠ L ∧ ofC (bytesN bs L.length) id T M R S V = 7) := by
            by_cases hw : bytesN bs L.length = L
            · exact .inl hw
            · exact .inr ⟨hw, P4.out bs (by rw [← HB0.out]; exact PP3) hw⟩
          have hWl := bytesN_len bs L.length
          have HBB := Lib.hid (i_BitsToBytes' (some ⟨ob, 0, none⟩) cb N bs _ L.length wr Ie (Nat.le_refl _) Q2.out hbl (by omega) (by omega))
          generalize bytesN bs L.length = W9 at *
          replace Ia := Ia.below Bac
          replace RS := (Bac.block (gF + 1) (by omega)).trans RS
          replace BW := BW.trans (Bac.mono (by omega))
          have zr := Bac.size
          have HWL := Lib.hid hWl
          have HDM := Lib.hid hdam
          clear q1 q3 q4 q5 q2 oc DD Ie PP PP3 P4 HP h01 HB0 P3 Q2 Bac hbs hN hbl h3 hWl hdam
          go_wp2_with fail
          refine HBB.out.mono ?_
          rintro e wf ⟨uf, rfl, of, bf⟩
          have hWl := HWL.out
          have hdam := HDM.out
          obtain ⟨Af, df, rfl, If⟩ := of.ints (by omega)
          clear hWl HWL HDM
          replace Ia := Ia.below' (by omega) bf
          replace RS := (bf.block (gF + 1) (by omega)).trans RS
          replace BW := BW.trans (bf.mono (by omega))
          have zf := bf.size
          clear of bf HBB
          have HO := Lib.hid (fun B W h hB => i_Open' Af W9.length df W9 id T M R S V B W h hB)
          have he : eqL W9 L = true ∨ (eqL W9 L = false ∧ ofC W9 id T M R S V = 7) := by
            rcases hdam with rfl | ⟨h1, h2⟩
            · exact .inl (eqL_refl _)
            · exact .inr ⟨by simpa [eqL] using h1, h2⟩
          clear hdam
          generalize ofC W9 id T M R S V = C9 at *
          have hel : ∀ (u : Bool), eqL W9 L = u → True := fun _ _ => trivial
          generalize heq : eqL W9 L = ee at *
          have HEQ := Lib.hid heq
          clear heq hel
          obtain ⟨s0, s1, s2, s3, s4⟩ := desc_cells RS
          go_wp2_with fail
          refine (HO.out _ _ If (Nat.le_refl _)).mono ?_
          rintro e wg ⟨fk, fq, ft, fm, fr, fs, fv, fA, fn, fc, rfl, bg⟩
          replace Ia := (Ia.below' (by omega) bg).alloc (by have := bg.size; omega) (.cells #[.int .i64 fk, .int .i64 fq, .int .i64 ft, .int .i64 fm, .int .i64 fr, .int .i64 fs, .int .i64 fv, .slice fA fn fc] 32)
          replace If := (If.below bg).alloc bg.size (.cells #[.int .i64 fk, .int .i64 fq, .int .i64 ft, .int .i64 fm, .int .i64 fr, .int .i64 fs, .int .i64 fv, .slice fA fn fc] 32)
          replace BW := (BW.trans (bg.mono (by omega))).alloc (by have := bg.size; omega) (.cells #[.int .i64 fk, .int .i64 fq, .int .i64 ft, .int .i64 fm, .int .i64 fr, .int .i64 fs, .int .i64 fv, .slice fA fn fc] 32)
          clear HO RS bg s0 s1 s2 s3 s4
          go_upto_region 18 with fail
          generalize wg.alloc _ = Wg at *
          go_wp2_with fail
          refine (h_likeInts _ _ _ _ _ _ _ _ _ _ _ If Ia).mono ?_
          rintro e wh ⟨rfl, mh, rfl⟩
          rw [HEQ.out]
          rcases he with rfl | ⟨rfl, rfl⟩
          · go_wp2
            go_ret
            exact ⟨rfl, below_drewN BW _⟩
          · go_wp2
            go_ret
            exact ⟨rfl, below_drewN BW _⟩
    · have hf0 : (C != 0) = true := by simpa using hC
      clear HALL HL
      go_wp2
      go_ret
      exact ⟨rfl, BW⟩
end Go.Proofs.Ytpcdachkmekjgaa

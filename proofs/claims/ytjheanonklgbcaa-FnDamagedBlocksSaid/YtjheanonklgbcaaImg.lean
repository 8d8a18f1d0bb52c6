/- Contracts of ImageOf. -/
import Derived.Test.YtjheanonklgbcaaThr
namespace Go.Proofs.Ytjheanonklgbcaa
open Go.RowKit
set_option linter.unusedSimpArgs false
set_option linter.unusedVariables false
/-- The head and the bytes of the block k. -/
def blkH (data : List Int) (k : Nat) : List Int := [(k : Int), ((cutL 28 data k).length : Int) + (if data.length ≤ (k + 1) * 28 then 128 else 0)] ++ cutL 28 data k
def imgL (data : List Int) : Nat → List Int
  | 0 => []
  | m + 1 => (imgL data m ++ blkH data m) ++ three (regC m (blkH data m))
theorem blkH_len (data : List Int) (k : Nat) : (blkH data k).length = 2 + min 28 (data.length - k * 28) := by simp [blkH, cutL_len]; omega
theorem imgL_len (data : List Int) (m : Nat) : (imgL data m).length ≤ 33 * m := by
  induction m with
  | zero => simp [imgL]
  | succ m ih => simp only [imgL, List.length_append, three_len, blkH_len]; omega
theorem cut28_mem {N k : Nat} {xs : List Int} {a b : Int} (h : ∀ x ∈ xs, a ≤ x ∧ x ≤ b) : ∀ x ∈ cutL N xs k, a ≤ x ∧ x ≤ b := fun x hx => h x (List.mem_of_mem_drop (List.mem_of_mem_take hx))
theorem blkH_mem {data : List Int} {k : Nat} (h : ∀ x ∈ data, 0 ≤ x ∧ x ≤ 255) (hk : k ≤ 40) : ∀ x ∈ blkH data k, 0 ≤ x ∧ x ≤ 255 := by
  intro x hx
  have hl := cutL_len 28 data k
  simp only [blkH, List.cons_append, List.nil_append, List.mem_cons] at hx
  rcases hx with rfl | rfl | hx
  · omega
  · split <;> omega
  · exact cut28_mem h x hx
theorem IOwn.intsO {w : World} {base c : Nat} {A : Option Addr} {xs : List Int} (h : IOwn w base (.slice A xs.length c) xs) (hs : xs.length ≤ 16777216) : IntsAt w w.heap.size A xs.length c xs := by
  obtain ⟨A', c', e, I⟩ := h.ints hs
  injection e with e1 e2 e3
  subst e1 e3
  exact I
theorem IOwn.keptApart {W W' : World} {b1 : Nat} {v1 v2 : Value} {xs : List Int} (h : IOwn W b1 v1 xs) (h2 : ∀ k, v2.ownBlock = some k → k < b1) (hg : W.grownBy W' v2.ownBlock) : IOwn W' b1 v1 xs := by
  rcases hq : v1.ownBlock with _ | k
  · exact h.kept hg (.inl hq)
  · exact h.kept hg (.inr (fun e => by have h3 := h2 k (e.symm.trans hq); have := (h.lt k hq).1; omega))
/-- While an image is built: the list so far, in a row of its own; the parts; what lay before. -/
structure IS (w : World) (B g M : Nat) (f : Nat → List Int) (o : Value) (xs : List Int) (W : World) : Prop where
  own : IOwn W w.heap.size o xs
  ne : o.ownBlock ≠ some g
  bel : Below w.heap.size w W
  parts : PartsAt W B g M f
  gl : g < W.heap.size
section
variable {w W W' : World} {B g M : Nat} {f : Nat → List Int} {o : Value} {xs ys : List Int}
theorem IS.below (h : IS w B g M f o xs W) (hB : B ≤ w.heap.size) (b : Below W.heap.size W W') : IS w B g M f o xs W' :=
  ⟨h.own.below_ b, h.ne, h.bel.trans (b.mono h.bel.size), h.parts.below h.gl (Nat.le_trans hB h.bel.size) b, Nat.lt_of_lt_of_le h.gl b.size⟩
theorem IS.alloc (h : IS w B g M f o xs W) (hB : B ≤ w.heap.size) (x : Obj) : IS w B g M f o xs (W.alloc x) := h.below hB ((Below.refl _ _).alloc (Nat.le_refl _) x)
theorem IS.lit {x : Obj} (h : IS w B g M f o xs W) (hB : B ≤ w.heap.size) (hg : (W.alloc x).grownBy W' (some W.heap.size)) : IS w B g M f o xs W' := by
  have h' := h.alloc hB x
  have hz := h.bel.size
  have hgl := h.gl
  refine ⟨h'.own.kept hg (.inr (fun e => by have := (h.own.lt _ e).2; omega)), h.ne, h'.bel.grown hg h'.bel.size (fun k e => by injection e with e; omega), h'.parts.kept hg h'.gl (fun e => by injection e with e; omega) (Nat.le_trans hB h'.bel.size) (fun k e => by injection e with e; omega), Nat.lt_of_lt_of_le h'.gl hg.size⟩
theorem IS.app {v' : Value} (h : IS w B g M f o xs W) (hB : B ≤ w.heap.size) (hown : IOwn W' w.heap.size v' ys) (hg : W.grownBy W' o.ownBlock) (hob : v'.ownBlock = o.ownBlock ∨ v'.ownBlock = some W.heap.size) : IS w B g M f v' ys W' := by
  have hgl := h.gl
  refine ⟨hown, ?_, h.bel.grown hg h.bel.size (fun k e => (h.own.lt k e).1), h.parts.kept hg h.gl h.ne (Nat.le_trans hB h.bel.size) (fun k e => Nat.le_trans hB (h.own.lt k e).1), Nat.lt_of_lt_of_le h.gl hg.size⟩
  rcases hob with e | e
  · rw [e]; exact h.ne
  · rw [e]; intro e'; injection e' with e'; omega
end
set_option maxHeartbeats 8000000 in
theorem i_imageOf (A : Option Addr) (n c : Nat) (xs : List Int) (B : Nat) (w : World) (h : IntsAt w B A n c xs) (hB : B ≤ w.heap.size) (hb : ∀ x ∈ xs, 0 ≤ x ∧ x ≤ 255) (hn : n ≤ 868) :
    Calls Try.prog 69 #[.slice A n c] w fun e w' => ∃ u, e = .returned u ∧ IOwn w' w.heap.size u (imgL xs (cutN 28 n)) ∧ Below w.heap.size w w' := by
  have o0 := lit_own w [] w.heap.size (Nat.le_refl _) (by simp)
  have hl := h.len
  have hsm := h.small
  have hle := h.le
  have hcm := h.cap
  obtain ⟨M, hM⟩ : ∃ M, M = cutN 28 n := ⟨_, rfl⟩
  rw [← hM]
  have hM1 : M ≤ 31 := by rw [hM]; unfold cutN; split <;> omega
  have hM0 : 1 ≤ M := by rw [hM]; unfold cutN; split <;> omega
  have hlast : ∀ j : Nat, j < M → ((j + 1 = M) ↔ n ≤ (j + 1) * 28) := by
    intro j hj
    rw [hM] at hj ⊢
    unfold cutN at hj ⊢
    split at hj <;> split <;> omega
  have HLAST := Lib.hid hlast
  have HB := Lib.hid hb
  have HXL := Lib.hid hl
  clear hlast hb
  by_cases hn0 : n = 0
  · subst hn0
    have hx : xs = [] := List.eq_nil_of_length_eq_zero hl
    have hM' : M = 1 := by rw [hM]; rfl
    have q0 := (Boxed.new (w.alloc (.cells #[] 2)) 22 (.slice A 0 c)).alloc (.cells #[.int .i64 ((28 : Nat) : Int)] 3)
    have q1 := Boxed.new ((w.alloc (.cells #[] 2)).alloc (.cells #[.slice A 0 c] 22)) 3 (.int .i64 ((28 : Nat) : Int))
    simp only [World.size_alloc] at q0 q1
    have HC := Lib.hid (l_Collect0 A c 28 (w.heap.size + 1) (w.heap.size + 1 + 1) _ q0 q1)
    have B0 := (((Below.refl w.heap.size w).alloc (Nat.le_refl _) (.cells #[] 2)).alloc (by simp) (.cells #[.slice A 0 c] 22)).alloc (by simp; omega) (.cells #[.int .i64 ((28 : Nat) : Int)] 3)
    have o1 := (o0.alloc (.cells #[.slice A 0 c] 22)).alloc (.cells #[.int .i64 ((28 : Nat) : Int)] 3)
    have z1 : (((w.alloc (.cells #[] 2)).alloc (.cells #[.slice A 0 c] 22)).alloc (.cells #[.int .i64 ((28 : Nat) : Int)] 3)).heap.size = w.heap.size + 3 := by simp
    subst hM'
    have HX := Lib.hid hx
    clear q0 q1 o0 h hl hM hx
    go_enter Try.func69, Try.ntmps69
    go_upto_region 4 with (first
      | (go_at_call 95; refine (l_Chunk _ _ _ 28 _ (by omega) rfl _).mono ?_; rintro e w' ⟨rfl, rfl⟩)
      | (go_at_call 94; refine HC.out.mono ?_; rintro e w2 ⟨v, rfl, hb⟩))
    have zb := hb.size
    have o2 := (o1.below_ hb).alloc (.cells #[.slice none 0 0] 22)
    have B2 := (B0.trans (hb.mono (by omega))).alloc (by omega) (.cells #[.slice none 0 0] 22)
    have R2 := heap_alloc_new w2 (.cells #[.slice none 0 0] 22)
    have hg1 : w2.heap.size < (w2.alloc (.cells #[.slice none 0 0] 22)).heap.size := by simp
    have hgw : w.heap.size < w2.heap.size := by omega
    have P : PartsAt (w2.alloc (.cells #[.slice none 0 0] 22)) B w2.heap.size 1 (cutL 28 xs) := fun k hk => by
      have hk' : k = 0 := by omega
      subst hk'
      refine ⟨none, 0, 0, cell_of_row _ _ _ _ _ _ R2, ?_⟩
      rw [HX.out, show cutL 28 ([] : List Int) 0 = [] by simp [cutL]]
      exact IntsAt.nil _ _ _ _ (by unfold maxLen; omega)
    clear B0 hb R2 HC o1 z1 zb
    generalize w2.alloc _ = W2 at *
    generalize w2.heap.size = g at *
    have hma : (0 : Int) < (1 : Int) := by omega
    have hmb : (1 : Int) ≤ 31 := by omega
    go_wp2
    go_loopw [3, 5, 6, 7, 8, 19] (fun o _ _ _ _ i wr => ∃ j : Nat, j ≤ 1 ∧ i = .int .i64 j ∧ IS w B g 1 (cutL 28 xs) o (imgL xs j) wr) (fun _ _ _ _ _ i _ => 1 - (intOf i).toNat)
    case atStart => exact ⟨0, by omega, rfl, o2, (by intro e; simp only [Value.ownBlock] at e; injection e with e; omega), B2, P, hg1⟩
    case round =>
      clear o2 B2 P hg1
      obtain ⟨j, hj, rfl, S⟩ := hrel
      have zw := S.bel.size
      have hgl := S.gl
      by_cases hlt : j < 1
      · obtain ⟨A2, l2, c2, hc2, I2⟩ := S.parts j hlt
        have hj1 : (j : Int) < (1 : Int) := by omega
        have hj2 : (j : Int) ≤ 40 := by omega
        have hl2 := I2.len
        have hl33 := cutL_len 28 xs j
        have hl2' : (l2 : Int) ≤ 28 := by omega
        have hla := HLAST.out j hlt
        have HD := Lib.hid (imgL_len xs j)
        have hHl := blkH_len xs j
        have HHL := Lib.hid (show (blkH xs j).length ≤ 30 by omega)
        have HK := Lib.hid (fun (A' : Option Addr) (n' c' B' : Nat) (W : World) (hI : IntsAt W B' A' n' c' (blkH xs j)) (hB' : B' ≤ W.heap.size) (hn' : n' ≤ 2000) => i_blockCheck j A' n' c' (blkH xs j) B' W hI hB' (blkH_mem HB.out (by omega)) hn' (by omega))
        have HS := Lib.hid (show imgL xs (j + 1) = (imgL xs j ++ blkH xs j) ++ three (regC j (blkH xs j)) from rfl)
        have HT3 := Lib.hid (three_len (regC j (blkH xs j)))
        by_cases hz : j + 1 = 1
        · have hz' : ((j : Int) == (1 : Int) - 1) = true := by simp; omega
          have hH : [(j : Int), (l2 : Int) + 128] ++ cutL 28 xs j = blkH xs j := by unfold blkH; rw [if_pos (by rw [HXL.out]; exact hla.1 hz), hl2]
          have HH := Lib.hid hH
          generalize cutL 28 xs j = Y at *
          generalize blkH xs j = H at *
          generalize three (regC j H) = T3 at *
          clear hz hla hl33 hHl hH hl2
          go_wp2_with (first
            | (at_builtin; refine wpList_app _ rfl _ _ 22 rfl wr.heap.size Try.underlying22 int_info (.slice (some ⟨wr.heap.size, 0, none⟩) 2 2) [(j : Int), (l2 : Int) + 128] rfl (lit_own wr [(j : Int), (l2 : Int) + 128] wr.heap.size (Nat.le_refl _) (by simp)) _ _ _ _ Y rfl (I2.alloc (by omega) _) (by simp; omega) (by simp) ?_; intro v1 w1 O1 g1 hb1; have S1 := S.lit hB g1; rw [HH.out] at O1; obtain ⟨A1, c1, rfl, I1⟩ := O1.ints (by have := HHL.out; omega))
            | (at_builtin; refine wpList_app _ rfl _ _ 22 rfl w.heap.size Try.underlying22 int_info _ (imgL xs j) rfl S1.own _ _ _ _ H rfl I1 (by have := HD.out; have := HHL.out; omega) S1.bel.size ?_; intro v2 w2' O2 g2 hb2; have S2 := S1.app hB O2 g2 hb2; have I1' := (O1.keptApart (fun k e => (S.own.lt k e).2) g2).intsO (by have := HHL.out; omega))
            | (go_at_call 97; refine (HK.out _ _ _ _ _ I1' (Nat.le_refl _) (by have := HHL.out; omega)).mono ?_; rintro e w3 ⟨ub, rfl, ob, b3⟩; obtain ⟨A3, c3, rfl, I3⟩ := ob.ints (by have := HT3.out; omega); have S3 := S2.below hB b3)
            | (at_builtin; refine wpList_app _ rfl _ _ 22 rfl w.heap.size Try.underlying22 int_info _ (imgL xs j ++ H) rfl S3.own _ _ _ _ T3 rfl I3 (by have := HD.out; have := HHL.out; have := HT3.out; rw [List.length_append]; omega) S3.bel.size ?_; intro v4 w4 O4 g4 hb4; have S4 := S3.app hB O4 g4 hb4))
          clear g1 g2 g4 hb1 hb2 hb4 O1 O2 O4 I1 I1' I3 ob S1 S2 S3 b3 HK
          go_wp2
          go_roundw
          case rel => exact ⟨j + 1, by omega, by go_num, by rw [HS.out]; exact S4⟩
          case measure => simp [intOf]; omega
        · exfalso; omega
      · have hjM : j = 1 := by omega
        have HO := Lib.hid (show IOwn wr w.heap.size u3 (imgL xs 1) by rw [← hjM]; exact S.own)
        have BW := S.bel
        clear hjM S
        go_wp2
        go_ret
        exact ⟨_, rfl, HO.out, BW⟩
  · obtain ⟨ad, rfl, hab, -⟩ := h.at_ 0 (by omega)
    have hn0' : (0 : Int) < (n : Int) := by omega
    have hnz : ((n : Int) == 0) = false := by simp; omega
    have hm : 1 ≤ (n + 28 - 1) / 28 := by omega
    have hM' : (n + 28 - 1) / 28 = M := by rw [hM]; unfold cutN; rw [if_neg hn0]
    have q0 := (Boxed.new (w.alloc (.cells #[] 2)) 22 (.slice (some ad) n c)).alloc (.cells #[.int .i64 ((28 : Nat) : Int)] 3)
    have q1 := Boxed.new ((w.alloc (.cells #[] 2)).alloc (.cells #[.slice (some ad) n c] 22)) 3 (.int .i64 ((28 : Nat) : Int))
    simp only [World.size_alloc] at q0 q1
    have hC := l_Collect ad n c 28 (w.heap.size + 1) (w.heap.size + 1 + 1) (by omega) (by omega) hle hcm hsm _ q0 q1
    rw [hM'] at hC hm
    have HC := Lib.hid hC
    have B0 := (((Below.refl w.heap.size w).alloc (Nat.le_refl _) (.cells #[] 2)).alloc (by simp) (.cells #[.slice (some ad) n c] 22)).alloc (by simp; omega) (.cells #[.int .i64 ((28 : Nat) : Int)] 3)
    have o1 := (o0.alloc (.cells #[.slice (some ad) n c] 22)).alloc (.cells #[.int .i64 ((28 : Nat) : Int)] 3)
    have I1 := h.below' hB B0
    have z1 : (((w.alloc (.cells #[] 2)).alloc (.cells #[.slice (some ad) n c] 22)).alloc (.cells #[.int .i64 ((28 : Nat) : Int)] 3)).heap.size = w.heap.size + 3 := by simp
    clear q0 q1 o0 h hl hM hM' hC
    go_enter Try.func69, Try.ntmps69
    go_upto_region 4 with (first
      | (go_at_call 95; refine (l_Chunk _ _ _ 28 _ (by omega) rfl _).mono ?_; rintro e w' ⟨rfl, rfl⟩)
      | (go_at_call 94; refine HC.out.mono ?_; rintro e w2 ⟨v, rfl, hr, hb⟩; obtain ⟨g, cp, rfl, hg0, hg1, hmc, hcp, P⟩ := parts_of_row hr hm (I1.below' (by omega) hb); have o2 := o1.below_ hb; have B2 := B0.trans (hb.mono (by omega))))
    have hgw : w.heap.size < g := by omega
    clear B0 hb hr HC o1 z1 I1 hg0
    obtain ⟨W2, hW2⟩ : ∃ W, W = w2 := ⟨_, rfl⟩
    subst hW2
    have hma : (0 : Int) < (M : Int) := by omega
    have hmb : (M : Int) ≤ 31 := by omega
    go_wp2
    go_loopw [3, 5, 6, 7, 8, 19] (fun o _ _ _ _ i wr => ∃ j : Nat, j ≤ M ∧ i = .int .i64 j ∧ IS w B g M (cutL 28 xs) o (imgL xs j) wr) (fun _ _ _ _ _ i _ => M - (intOf i).toNat)
    case atStart => exact ⟨0, by omega, rfl, o2, (by intro e; simp only [Value.ownBlock] at e; injection e with e; omega), B2, P, hg1⟩
    case round =>
      clear o2 B2 P hg1
      obtain ⟨j, hj, rfl, S⟩ := hrel
      have zw := S.bel.size
      have hgl := S.gl
      by_cases hlt : j < M
      · obtain ⟨A2, l2, c2, hc2, I2⟩ := S.parts j hlt
        have hj1 : (j : Int) < (M : Int) := by omega
        have hj2 : (j : Int) ≤ 40 := by omega
        have hl2 := I2.len
        have hl33 := cutL_len 28 xs j
        have hl2' : (l2 : Int) ≤ 28 := by omega
        have hla := HLAST.out j hlt
        have HD := Lib.hid (imgL_len xs j)
        have hHl := blkH_len xs j
        have HHL := Lib.hid (show (blkH xs j).length ≤ 30 by omega)
        have HK := Lib.hid (fun (A' : Option Addr) (n' c' B' : Nat) (W : World) (hI : IntsAt W B' A' n' c' (blkH xs j)) (hB' : B' ≤ W.heap.size) (hn' : n' ≤ 2000) => i_blockCheck j A' n' c' (blkH xs j) B' W hI hB' (blkH_mem HB.out (by omega)) hn' (by omega))
        have HS := Lib.hid (show imgL xs (j + 1) = (imgL xs j ++ blkH xs j) ++ three (regC j (blkH xs j)) from rfl)
        have HT3 := Lib.hid (three_len (regC j (blkH xs j)))
        by_cases hz : j + 1 = M
        · have hz' : ((j : Int) == (M : Int) - 1) = true := by simp; omega
          have hH : [(j : Int), (l2 : Int) + 128] ++ cutL 28 xs j = blkH xs j := by unfold blkH; rw [if_pos (by rw [HXL.out]; exact hla.1 hz), hl2]
          have HH := Lib.hid hH
          generalize cutL 28 xs j = Y at *
          generalize blkH xs j = H at *
          generalize three (regC j H) = T3 at *
          clear hz hla hl33 hHl hH hl2
          go_wp2_with (first
            | (at_builtin; refine wpList_app _ rfl _ _ 22 rfl wr.heap.size Try.underlying22 int_info (.slice (some ⟨wr.heap.size, 0, none⟩) 2 2) [(j : Int), (l2 : Int) + 128] rfl (lit_own wr [(j : Int), (l2 : Int) + 128] wr.heap.size (Nat.le_refl _) (by simp)) _ _ _ _ Y rfl (I2.alloc (by omega) _) (by simp; omega) (by simp) ?_; intro v1 w1 O1 g1 hb1; have S1 := S.lit hB g1; rw [HH.out] at O1; obtain ⟨A1, c1, rfl, I1⟩ := O1.ints (by have := HHL.out; omega))
            | (at_builtin; refine wpList_app _ rfl _ _ 22 rfl w.heap.size Try.underlying22 int_info _ (imgL xs j) rfl S1.own _ _ _ _ H rfl I1 (by have := HD.out; have := HHL.out; omega) S1.bel.size ?_; intro v2 w2' O2 g2 hb2; have S2 := S1.app hB O2 g2 hb2; have I1' := (O1.keptApart (fun k e => (S.own.lt k e).2) g2).intsO (by have := HHL.out; omega))
            | (go_at_call 97; refine (HK.out _ _ _ _ _ I1' (Nat.le_refl _) (by have := HHL.out; omega)).mono ?_; rintro e w3 ⟨ub, rfl, ob, b3⟩; obtain ⟨A3, c3, rfl, I3⟩ := ob.ints (by have := HT3.out; omega); have S3 := S2.below hB b3)
            | (at_builtin; refine wpList_app _ rfl _ _ 22 rfl w.heap.size Try.underlying22 int_info _ (imgL xs j ++ H) rfl S3.own _ _ _ _ T3 rfl I3 (by have := HD.out; have := HHL.out; have := HT3.out; rw [List.length_append]; omega) S3.bel.size ?_; intro v4 w4 O4 g4 hb4; have S4 := S3.app hB O4 g4 hb4))
          clear g1 g2 g4 hb1 hb2 hb4 O1 O2 O4 I1 I1' I3 ob S1 S2 S3 b3 HK
          go_wp2
          go_roundw
          case rel => exact ⟨j + 1, by omega, by go_num, by rw [HS.out]; exact S4⟩
          case measure => simp [intOf]; omega
        · have hz' : ((j : Int) == (M : Int) - 1) = false := by simp; omega
          have hH : [(j : Int), (l2 : Int)] ++ cutL 28 xs j = blkH xs j := by unfold blkH; rw [if_neg (by rw [HXL.out]; exact fun e => hz (hla.2 e)), hl2, Int.add_zero]
          have HH := Lib.hid hH
          generalize cutL 28 xs j = Y at *
          generalize blkH xs j = H at *
          generalize three (regC j H) = T3 at *
          clear hz hla hl33 hHl hH hl2
          go_wp2_with (first
            | (at_builtin; refine wpList_app _ rfl _ _ 22 rfl wr.heap.size Try.underlying22 int_info (.slice (some ⟨wr.heap.size, 0, none⟩) 2 2) [(j : Int), (l2 : Int)] rfl (lit_own wr [(j : Int), (l2 : Int)] wr.heap.size (Nat.le_refl _) (by simp)) _ _ _ _ Y rfl (I2.alloc (by omega) _) (by simp; omega) (by simp) ?_; intro v1 w1 O1 g1 hb1; have S1 := S.lit hB g1; rw [HH.out] at O1; obtain ⟨A1, c1, rfl, I1⟩ := O1.ints (by have := HHL.out; omega))
            | (at_builtin; refine wpList_app _ rfl _ _ 22 rfl w.heap.size Try.underlying22 int_info _ (imgL xs j) rfl S1.own _ _ _ _ H rfl I1 (by have := HD.out; have := HHL.out; omega) S1.bel.size ?_; intro v2 w2' O2 g2 hb2; have S2 := S1.app hB O2 g2 hb2; have I1' := (O1.keptApart (fun k e => (S.own.lt k e).2) g2).intsO (by have := HHL.out; omega))
            | (go_at_call 97; refine (HK.out _ _ _ _ _ I1' (Nat.le_refl _) (by have := HHL.out; omega)).mono ?_; rintro e w3 ⟨ub, rfl, ob, b3⟩; obtain ⟨A3, c3, rfl, I3⟩ := ob.ints (by have := HT3.out; omega); have S3 := S2.below hB b3)
            | (at_builtin; refine wpList_app _ rfl _ _ 22 rfl w.heap.size Try.underlying22 int_info _ (imgL xs j ++ H) rfl S3.own _ _ _ _ T3 rfl I3 (by have := HD.out; have := HHL.out; have := HT3.out; rw [List.length_append]; omega) S3.bel.size ?_; intro v4 w4 O4 g4 hb4; have S4 := S3.app hB O4 g4 hb4))
          clear g1 g2 g4 hb1 hb2 hb4 O1 O2 O4 I1 I1' I3 ob S1 S2 S3 b3 HK
          go_wp2
          go_roundw
          case rel => exact ⟨j + 1, by omega, by go_num, by rw [HS.out]; exact S4⟩
          case measure => simp [intOf]; omega
      · have hjM : j = M := by omega
        have HO := Lib.hid (show IOwn wr w.heap.size u3 (imgL xs M) by rw [← hjM]; exact S.own)
        have BW := S.bel
        clear hjM S
        go_wp2
        go_ret
        exact ⟨_, rfl, HO.out, BW⟩
end Go.Proofs.Ytjheanonklgbcaa

/- Contracts: the frame out of a body, the program's. -/
import Derived.Test.YtpcdachkmekjgaaFBody
import Derived.Test.YtpcdachkmekjgaaStF
import Derived.Test.YtpcdachkmekjgaaFrmH
import Derived.Test.YtpcdachkmekjgaaSeal2
import Derived.Deep.RegionHeld3
import Derived.BigRegion
namespace Go.Proofs.Ytpcdachkmekjgaa
open Go.RowKit
set_option linter.unusedSimpArgs false
set_option linter.unusedVariables false
theorem fr_frozen {w : World} {g : Nat} {a0 a1 a2 a3 a4 a5 a6 a7 : Value} {t : TypeId} (h : w.heap[g]? = some (.cells #[a0, a1, a2, a3, a4, a5, a6, a7] t (0, 0))) :
    w.frozen? ⟨g, 0, none⟩ = false ∧ w.frozen? ⟨g, 1, none⟩ = false ∧ w.frozen? ⟨g, 2, none⟩ = false ∧ w.frozen? ⟨g, 3, none⟩ = false ∧ w.frozen? ⟨g, 4, none⟩ = false ∧ w.frozen? ⟨g, 5, none⟩ = false ∧ w.frozen? ⟨g, 6, none⟩ = false ∧ w.frozen? ⟨g, 7, none⟩ = false :=
  ⟨frozen_of_row _ _ 0 _ _ h, frozen_of_row _ _ 1 _ _ h, frozen_of_row _ _ 2 _ _ h, frozen_of_row _ _ 3 _ _ h, frozen_of_row _ _ 4 _ _ h, frozen_of_row _ _ 5 _ _ h, frozen_of_row _ _ 6 _ _ h, frozen_of_row _ _ 7 _ _ h⟩
/-- What comes back of a body: a frame, if there is one. -/
def FFQ (w : World) (xs : List Int) (e : Ending) (w' : World) : Prop :=
  ∃ (k q t m r s v : Int) (A : Option Addr) (n c : Nat), e = .returned (.tuple #[.agg #[.int .i64 k, .int .i64 q, .int .i64 t, .int .i64 m, .int .i64 r, .int .i64 s, .int .i64 v, .slice A n c], .bool (fbOk xs)]) ∧
    (fbOk xs = true → k = hdK xs ∧ q = hdQ xs ∧ t = stF xs 0 16 ∧ m = stF xs 16 4 ∧ r = stF xs 20 4 ∧ s = stF xs 24 8 ∧ v = stF xs 32 32 ∧ IOwn w' w.heap.size (.slice A n c) (hdD xs)) ∧ Below w.heap.size w w'
theorem ff_open {w W : World} {g B n c : Nat} {A : Option Addr} {xs : List Int} {z : Array Value} {t t' : TypeId} {f : Array Value} (hR : W.heap[g]? = some (.cells z t (0, 0))) (hB : Below g w W) (hI : IntsAt W B A n c xs) (hBg : B ≤ g) :
    (W.alloc (.cells f t')).drew.heap[g]? = some (.cells z t (0, 0)) ∧ (W.alloc (.cells f t')).drew.heap[W.heap.size]? = some (.cells f t' (0, 0)) ∧ Below g w (W.alloc (.cells f t')).drew ∧ IntsAt (W.alloc (.cells f t')).drew B A n c xs ∧ (W.alloc (.cells f t')).drew.heap.size = W.heap.size + 1 := by
  have hg := Below.lt_of' hR
  exact ⟨(Below.heap_alloc W _ g hg).trans hR, heap_alloc_new W _, (hB.alloc (by omega) _).drew, (hI.alloc (by omega) _).drew, World.size_alloc W _⟩
theorem fbOk_of {xs : List Int} (h0 : xs ≠ []) (h9 : hdK xs = 0 ∨ 9 ≤ xs.length) : fbOk xs = (frOk (hdK xs) (hdQ xs) (stF xs 0 16) (stF xs 16 4) (stF xs 20 4) (stF xs 24 8) (stF xs 32 32) (hdD xs) && eqL (bodyL (hdK xs) (hdQ xs) (stF xs 0 16) (stF xs 16 4) (stF xs 20 4) (stF xs 24 8) (stF xs 32 32) (hdD xs)) xs) := by
  have e : (decide (hdK xs = 0) || decide (9 ≤ xs.length)) = true := by simpa using h9
  unfold fbOk
  rw [decide_eq_true h0, e]
  rfl
theorem stF_zero {xs : List Int} (h : hdK xs = 0) (a m : Nat) : stF xs a m = 0 := if_pos h
theorem stF_part {xs : List Int} (h : hdK xs ≠ 0) (a m : Nat) : stF xs a m = ((partN (bitsL ((xs.drop 1).take 8)) a m : Nat) : Int) := if_neg h
theorem ne_nil_of_len {xs : List Int} (h : 0 < xs.length) : xs ≠ [] := by intro e; rw [e] at h; cases h
theorem part_bytes {xs : List Int} (h : ∀ x ∈ xs, 0 ≤ x ∧ x ≤ 255) (a m k : Nat) (hk : k < ((xs.drop a).take m).length) : 0 ≤ ((xs.drop a).take m).getD k 0 ∧ ((xs.drop a).take m).getD k 0 ≤ 255 :=
  getD_of_mem (fun x hx => h x (List.mem_of_mem_drop (List.mem_of_mem_take hx))) k hk
theorem IntsAt.five8 {w : World} {B n c : Nat} {A : Option Addr} {xs : List Int} (h : IntsAt w B A n c xs) {g : Nat} (hg : B ≤ g) {v2 v3 v4 v5 v6 : Value} :
    IntsAt (((((w.setCell ⟨g, 2, none⟩ v2).setCell ⟨g, 3, none⟩ v3).setCell ⟨g, 4, none⟩ v4).setCell ⟨g, 5, none⟩ v5).setCell ⟨g, 6, none⟩ v6) B A n c xs :=
  ((((h.setCell (p := ⟨g, 2, none⟩) hg _).setCell (p := ⟨g, 3, none⟩) hg _).setCell (p := ⟨g, 4, none⟩) hg _).setCell (p := ⟨g, 5, none⟩) hg _).setCell (p := ⟨g, 6, none⟩) hg _
set_option maxHeartbeats 4000000 in
theorem i_ff_0d (ad : Addr) (n c : Nat) (xs : List Int) (B : Nat) (w : World) (h : IntsAt w B (some ad) (n + 2) (c + 2) xs) (hB : B ≤ w.heap.size) (hbm : ∀ x ∈ xs, 0 ≤ x ∧ x ≤ 255) (hn2 : n + 2 ≤ 1024) (hk : hdK xs = 0) :
    Calls Try.prog 59 #[.slice (some ad) (n + 2) (c + 2)] w (FFQ w xs) := by
  obtain ⟨ad', e, hab, hx⟩ := h.at_ 0 (by omega)
  cases e
  have hle := h.le
  have hlen := h.len
  have hcm : c + 2 ≤ 9223372036854775807 := Nat.le_trans h.cap (by unfold maxLen; omega)
  have R0 := heap_alloc_new w (.cells #[.int .i64 0, .int .i64 0, .int .i64 0, .int .i64 0, .int .i64 0, .int .i64 0, .int .i64 0, .slice none 0 0] 32)
  have B0 := (Below.refl w.heap.size w).alloc (Nat.le_refl _) (.cells #[.int .i64 0, .int .i64 0, .int .i64 0, .int .i64 0, .int .i64 0, .int .i64 0, .int .i64 0, .slice none 0 0] 32)
  have I0 := h.alloc hB (.cells #[.int .i64 0, .int .i64 0, .int .i64 0, .int .i64 0, .int .i64 0, .int .i64 0, .int .i64 0, .slice none 0 0] 32)
  obtain ⟨x0, x1⟩ := getD_of_mem hbm 0 (by omega)
  have hK : xs.getD 0 0 / 64 = 0 := hk
  have hQ : hdQ xs = xs.getD 0 0 / 8 % 8 := rfl
  obtain ⟨D, hDe⟩ : ∃ D, xs.drop 2 = D := ⟨_, rfl⟩
  have hD : hdD xs = D := (if_pos hk).trans hDe
  have hDl : D.length = n := by rw [← hDe, List.length_drop]; omega
  have HDe := Lib.hid hDe; have HDl := Lib.hid hDl; clear hDe hDl
  have hfb := fbOk_of (ne_nil_of_len (xs := xs) (by omega)) (.inl hk)
  rw [stF_zero hk, stF_zero hk, stF_zero hk, stF_zero hk, stF_zero hk, hQ, hD] at hfb
  have hST := fun a m => stF_zero hk a m
  generalize hX : xs.getD 0 0 = x at hx x0 x1 hK hQ hfb
  rw [show hdK xs = 0 from hk] at hfb
  have Hfb := Lib.hid hfb; have HQ := Lib.hid hQ; have HD := Lib.hid hD; have HST := Lib.hid hST; have HK := Lib.hid hk
  have HX := Lib.hid hX
  have HL := Lib.hid hlen; have HM := Lib.hid hbm
  clear hfb hQ hD hST hk hX hlen h hbm
  go_enter Try.func59, Try.ntmps59
  go_upto_region 1 with fail
  generalize hg : w.heap.size = g at *
  generalize World.alloc _ _ = W at *
  have zW := Below.lt_of' R0
  have hl1 : ad.block < W.heap.size := by omega
  have hl2 : ad.block ≠ W.heap.size := by omega
  have hx' : W.cell? ad = some (.int .i64 x) := by
    obtain ⟨ad', e, _, hx2⟩ := I0.at_ 0 (by omega)
    cases e
    rw [HX.out] at hx2
    simpa [Addr.add] using hx2
  clear hx
  go_upto_region 3 with fail
  go_region
  obtain ⟨R1, P1, B1, I1, z1⟩ := ff_open (t' := 32) (f := #[.int .i64 0, .int .i64 (x / 8 % 8), .int .i64 0, .int .i64 0, .int .i64 0, .int .i64 0, .int .i64 0, .slice none 0 0]) R0 B0 I0 hB
  generalize World.drew _ = Y at *
  generalize hg1 : W.heap.size = g1 at *
  clear R0 B0 I0 hx' hl2
  have ng : g ≠ g1 := by omega
  obtain ⟨c0, c1, c2, c3, c4, c5, c6, c7⟩ := fr_cells P1
  obtain ⟨f0, f1, f2, f3, f4, f5, f6, f7⟩ := fr_frozen P1
  have I2 : IntsAt Y B (if c = 0 then some ⟨ad.block, ad.off + 1, none⟩ else some ⟨ad.block, ad.off + 1 + 1, none⟩) n c D := by
    have := I1.cutFrom 2 (by omega)
    rw [HDe.out] at this
    by_cases hc0 : c = 0
    · rw [if_pos hc0]
      refine ⟨this.1, this.2.1, this.2.2.1, this.2.2.2.1, fun h0 => ?_⟩
      have := this.2.1
      omega
    · rw [if_neg hc0]
      rw [if_neg (by omega)] at this
      exact this
  go_upto_region 11 with (first
    | (go_at_call 73; with_reducible refine (i_hasS_no 0 _ (by decide)).mono ?_; rintro e w' ⟨rfl, rfl⟩)
    | (go_at_call 97; with_reducible refine (i_hasD_yes 0 _ (by decide)).mono ?_; rintro e w' ⟨rfl, rfl⟩)
    | (go_at_call 105; refine (l_Clone _ _ _ D _ _ I2 (by omega)).mono ?_; rintro e Y2 ⟨u2, rfl, o2, b2⟩; obtain ⟨A2, cc2, rfl, i2⟩ := o2.ints (by have := HDl.out; omega); have z2 := b2.size; have R2 := (b2.block g (by omega)).trans R1; have P2 := (b2.block g1 (by omega)).trans P1; obtain ⟨c0, c1, c2', c3, c4, c5, c6, c7⟩ := fr_cells P2; obtain ⟨f0, f1, f2, f3, f4, f5, f6, f7⟩ := fr_frozen P2; have B2 := B1.trans (b2.mono (by omega)))
    | fail)
  have P3 : (Y2.setCell ⟨g1, 7, none⟩ (.slice A2 D.length cc2)).heap[g1]? = some (.cells #[.int .i64 0, .int .i64 (x / 8 % 8), .int .i64 0, .int .i64 0, .int .i64 0, .int .i64 0, .int .i64 0, .slice A2 D.length cc2] 32 (0, 0)) := by simpa using heap_setCell_same _ g1 7 _ _ (.slice A2 D.length cc2) P2
  have R3 := (show (Y2.setCell ⟨g1, 7, none⟩ (.slice A2 D.length cc2)).heap[g]? = Y2.heap[g]? from heap_setCell_other _ _ _ _ ng).trans R2
  have O3 := o2.setB (g := g1) (k := 7) (by omega) (.slice A2 D.length cc2)
  have B3 := B2.setCell (p := ⟨g1, 7, none⟩) (show g ≤ g1 by omega) (.slice A2 D.length cc2)
  have I3 := (I1.below' (by omega) b2).setCell (p := ⟨g1, 7, none⟩) (show B ≤ g1 by omega) (.slice A2 D.length cc2)
  obtain ⟨A3, c3', e3, ID⟩ := O3.ints (by have := HDl.out; omega)
  injection e3 with e31 e32 e33
  subst e31 e33
  clear c0 c1 c2' c3 c4 c5 c6 c7 f0 f1 f2 f3 f4 f5 f6 f7 R2 P2 o2 B2 i2 I1 I2 e32 R1 P1 B1
  generalize World.setCell _ _ _ = Z at *
  have zZ := Below.lt_of' P3
  have CI := i_IsFrame 0 (x / 8 % 8) 0 0 0 0 0 A2 D.length cc2 D _ Z ID ((by omega))
  have HF0 := Hfb.out
  obtain ⟨d0, d1, d2, d3, d4, d5, d6, d7⟩ := fr_cells P3
  cases hf : frOk 0 (x / 8 % 8) 0 0 0 0 0 D
  · rw [hf] at CI HF0
    have HF := Lib.hid (HF0.trans (Bool.false_and _))
    clear HF0 Hfb
    go_wp2_with (first
      | (go_at_call 39; refine CI.mono ?_; rintro e Z5 ⟨rfl, b5⟩; have R5 := (b5.block g (by omega)).trans R3; have B5 := B3.trans (b5.mono (by omega)); obtain ⟨c0, c1, c2', c3, c4, c5, c6, c7⟩ := fr_cells R5; obtain ⟨f0, f1, f2, f3, f4, f5, f6, f7⟩ := fr_frozen R5)
      | fail)
    all_goals
      have RR := eight_heap (v0 := .int .i64 0) (v1 := .int .i64 0) (v2 := .int .i64 0) (v3 := .int .i64 0) (v4 := .int .i64 0) (v5 := .int .i64 0) (v6 := .int .i64 0) (v7 := .slice none 0 0) R5
      have BB := below_eight (v0 := .int .i64 0) (v1 := .int .i64 0) (v2 := .int .i64 0) (v3 := .int .i64 0) (v4 := .int .i64 0) (v5 := .int .i64 0) (v6 := .int .i64 0) (v7 := .slice none 0 0) B5 (Nat.le_refl g)
      clear c0 c1 c2' c3 c4 c5 c6 c7 f0 f1 f2 f3 f4 f5 f6 f7 R5 B5
      revert RR BB
      generalize World.setCell _ _ _ = Y9
      intro RR BB
      obtain ⟨e0, e1, e2, e3, e4, e5, e6, e7⟩ := fr_cells RR
      go_wp2
      exact bodyPost_ret (v := .tuple #[.agg #[.int .i64 0, .int .i64 0, .int .i64 0, .int .i64 0, .int .i64 0, .int .i64 0, .int .i64 0, .slice none 0 0], .bool false]) (by simp [results, Try.results59, go_sem, e0, e1, e2, e3, e4, e5, e6, e7]) rfl ⟨0, 0, 0, 0, 0, 0, 0, none, 0, 0, by rw [HF.out], (fun h => by rw [HF.out] at h; cases h), by rw [hg]; exact BB⟩
  · rw [hf, Bool.true_and] at HF0
    rw [hf] at CI
    have CB := fun W' hI' hB' => i_body 0 (x / 8 % 8) 0 0 0 0 0 A2 D.length cc2 D Z.heap.size W' hI' hB' hf
    have hbs := body_small hf
    generalize hLe : bodyL 0 (x / 8 % 8) 0 0 0 0 0 D = L at *
    clear hLe
    cases he : eqL L xs
    · rw [he] at HF0
      have HF := Lib.hid HF0
      clear HF0 Hfb
      go_wp2_with (first
        | (go_at_call 39; refine CI.mono ?_; rintro e Z5 ⟨rfl, b5⟩; have z5 := b5.size; have R5 := (b5.block g (by omega)).trans R3; have P5 := (b5.block g1 (by omega)).trans P3; have B5 := B3.trans (b5.mono (by omega)); have ID5 := ID.below' ((by omega)) b5; have I5 := I3.below' (by omega) b5; obtain ⟨d0, d1, d2, d3, d4, d5, d6, d7⟩ := fr_cells P5)
        | (go_at_call 54; refine (CB _ ID5 ((by omega))).mono ?_; rintro e Z6 ⟨u6, rfl, o6, b6⟩; obtain ⟨A6, cc6, rfl, i6⟩ := o6.ints (by omega); have R6 := (b6.block g (by omega)).trans R5; have B6 := B5.trans (b6.mono (by omega)); have I6 := I5.below' (by omega) b6)
        | (go_at_call 71; refine (l_Equal _ _ _ _ _ _ L xs _ _ _ i6 I6).mono ?_; rintro e Z7 ⟨rfl, m7, rfl⟩; have R7 : (Z6.drewN m7).heap[g]? = _ := R6; have B7 := below_drewN B6 m7; obtain ⟨c0, c1, c2', c3, c4, c5, c6, c7⟩ := fr_cells R7; obtain ⟨f0, f1, f2, f3, f4, f5, f6, f7⟩ := fr_frozen R7)
        | fail)
      all_goals
        have RR := eight_heap (v0 := .int .i64 0) (v1 := .int .i64 0) (v2 := .int .i64 0) (v3 := .int .i64 0) (v4 := .int .i64 0) (v5 := .int .i64 0) (v6 := .int .i64 0) (v7 := .slice none 0 0) R7
        have BB := below_eight (v0 := .int .i64 0) (v1 := .int .i64 0) (v2 := .int .i64 0) (v3 := .int .i64 0) (v4 := .int .i64 0) (v5 := .int .i64 0) (v6 := .int .i64 0) (v7 := .slice none 0 0) B7 (Nat.le_refl g)
        clear c0 c1 c2' c3 c4 c5 c6 c7 f0 f1 f2 f3 f4 f5 f6 f7 R7 B7
        revert RR BB
        generalize World.setCell _ _ _ = Y9
        intro RR BB
        obtain ⟨e0, e1, e2, e3, e4, e5, e6, e7⟩ := fr_cells RR
        go_wp2
        exact bodyPost_ret (v := .tuple #[.agg #[.int .i64 0, .int .i64 0, .int .i64 0, .int .i64 0, .int .i64 0, .int .i64 0, .int .i64 0, .slice none 0 0], .bool false]) (by simp [results, Try.results59, go_sem, e0, e1, e2, e3, e4, e5, e6, e7]) rfl ⟨0, 0, 0, 0, 0, 0, 0, none, 0, 0, by rw [HF.out], (fun h => by rw [HF.out] at h; cases h), by rw [hg]; exact BB⟩
    · rw [he] at HF0
      have HF := Lib.hid HF0
      clear HF0 Hfb
      go_wp2_with (first
        | (go_at_call 39; refine CI.mono ?_; rintro e Z5 ⟨rfl, b5⟩; have z5 := b5.size; have R5 := (b5.block g (by omega)).trans R3; have P5 := (b5.block g1 (by omega)).trans P3; have B5 := B3.trans (b5.mono (by omega)); have ID5 := ID.below' ((by omega)) b5; have I5 := I3.below' (by omega) b5; have O5 := O3.below_ b5; obtain ⟨d0, d1, d2, d3, d4, d5, d6, d7⟩ := fr_cells P5)
        | (go_at_call 54; refine (CB _ ID5 ((by omega))).mono ?_; rintro e Z6 ⟨u6, rfl, o6, b6⟩; obtain ⟨A6, cc6, rfl, i6⟩ := o6.ints (by omega); have R6 := (b6.block g (by omega)).trans R5; have P6 := (b6.block g1 (by omega)).trans P5; have B6 := B5.trans (b6.mono (by omega)); have I6 := I5.below' (by omega) b6; have O6 := O5.below_ b6)
        | (go_at_call 71; refine (l_Equal _ _ _ _ _ _ L xs _ _ _ i6 I6).mono ?_; rintro e Z7 ⟨rfl, m7, rfl⟩; have R7 : (Z6.drewN m7).heap[g]? = _ := R6; have P7 : (Z6.drewN m7).heap[g1]? = _ := P6; have B7 := below_drewN B6 m7; have O7 := O6.drewN m7; obtain ⟨c0, c1, c2', c3, c4, c5, c6, c7⟩ := fr_cells R7; obtain ⟨f0, f1, f2, f3, f4, f5, f6, f7⟩ := fr_frozen R7; obtain ⟨d0, d1, d2, d3, d4, d5, d6, d7⟩ := fr_cells P7)
        | fail)
      all_goals
        have RR := eight_heap (v0 := .int .i64 0) (v1 := .int .i64 (x / 8 % 8)) (v2 := .int .i64 0) (v3 := .int .i64 0) (v4 := .int .i64 0) (v5 := .int .i64 0) (v6 := .int .i64 0) (v7 := .slice A2 D.length cc2) R7
        have BB := below_eight (v0 := .int .i64 0) (v1 := .int .i64 (x / 8 % 8)) (v2 := .int .i64 0) (v3 := .int .i64 0) (v4 := .int .i64 0) (v5 := .int .i64 0) (v6 := .int .i64 0) (v7 := .slice A2 D.length cc2) B7 (Nat.le_refl g)
        have OO := O7.eight (g := g) (by omega) (.int .i64 0) (.int .i64 (x / 8 % 8)) (.int .i64 0) (.int .i64 0) (.int .i64 0) (.int .i64 0) (.int .i64 0) (.slice A2 D.length cc2)
        clear c0 c1 c2' c3 c4 c5 c6 c7 f0 f1 f2 f3 f4 f5 f6 f7 R7 B7
        revert RR BB OO
        generalize World.setCell _ _ _ = Y9
        intro RR BB OO
        obtain ⟨e0, e1, e2, e3, e4, e5, e6, e7⟩ := fr_cells RR
        go_wp2
        exact bodyPost_ret (v := .tuple #[.agg #[.int .i64 0, .int .i64 (x / 8 % 8), .int .i64 0, .int .i64 0, .int .i64 0, .int .i64 0, .int .i64 0, .slice A2 D.length cc2], .bool true]) (by simp [results, Try.results59, go_sem, e0, e1, e2, e3, e4, e5, e6, e7]) rfl ⟨0, x / 8 % 8, 0, 0, 0, 0, 0, A2, D.length, cc2, by rw [HF.out], fun _ => ⟨HK.out.symm, HQ.out.symm, (HST.out _ _).symm, (HST.out _ _).symm, (HST.out _ _).symm, (HST.out _ _).symm, (HST.out _ _).symm, by rw [HD.out, hg]; exact OO.less (by omega)⟩, by rw [hg]; exact BB⟩
set_option maxHeartbeats 4000000 in
theorem i_ff_0e (ad : Addr) (c : Nat) (xs : List Int) (B : Nat) (w : World) (h : IntsAt w B (some ad) (1) (c + 1) xs) (hB : B ≤ w.heap.size) (hbm : ∀ x ∈ xs, 0 ≤ x ∧ x ≤ 255) (hn2 : 1 ≤ 1024) (hk : hdK xs = 0) :
    Calls Try.prog 59 #[.slice (some ad) (1) (c + 1)] w (FFQ w xs) := by
  obtain ⟨ad', e, hab, hx⟩ := h.at_ 0 (by omega)
  cases e
  have hle := h.le
  have hlen := h.len
  have hcm : c + 1 ≤ 9223372036854775807 := Nat.le_trans h.cap (by unfold maxLen; omega)
  have R0 := heap_alloc_new w (.cells #[.int .i64 0, .int .i64 0, .int .i64 0, .int .i64 0, .int .i64 0, .int .i64 0, .int .i64 0, .slice none 0 0] 32)
  have B0 := (Below.refl w.heap.size w).alloc (Nat.le_refl _) (.cells #[.int .i64 0, .int .i64 0, .int .i64 0, .int .i64 0, .int .i64 0, .int .i64 0, .int .i64 0, .slice none 0 0] 32)
  have I0 := h.alloc hB (.cells #[.int .i64 0, .int .i64 0, .int .i64 0, .int .i64 0, .int .i64 0, .int .i64 0, .int .i64 0, .slice none 0 0] 32)
  obtain ⟨x0, x1⟩ := getD_of_mem hbm 0 (by omega)
  have hK : xs.getD 0 0 / 64 = 0 := hk
  have hQ : hdQ xs = xs.getD 0 0 / 8 % 8 := rfl
  obtain ⟨D, hDe⟩ : ∃ D : List Int, [] = D := ⟨_, rfl⟩
  have hD : hdD xs = D := by rw [← hDe]; unfold hdD; rw [if_pos hk]; exact List.drop_of_length_le (by omega)
  have hDl : D.length = 0 := by rw [← hDe]; rfl
  have HDe := Lib.hid hDe; have HDl := Lib.hid hDl; clear hDe hDl
  have hfb := fbOk_of (ne_nil_of_len (xs := xs) (by omega)) (.inl hk)
  rw [stF_zero hk, stF_zero hk, stF_zero hk, stF_zero hk, stF_zero hk, hQ, hD] at hfb
  have hST := fun a m => stF_zero hk a m
  generalize hX : xs.getD 0 0 = x at hx x0 x1 hK hQ hfb
  rw [show hdK xs = 0 from hk] at hfb
  have Hfb := Lib.hid hfb; have HQ := Lib.hid hQ; have HD := Lib.hid hD; have HST := Lib.hid hST; have HK := Lib.hid hk
  have HX := Lib.hid hX
  have HL := Lib.hid hlen; have HM := Lib.hid hbm
  clear hfb hQ hD hST hk hX hlen h hbm
  go_enter Try.func59, Try.ntmps59
  go_upto_region 1 with fail
  generalize hg : w.heap.size = g at *
  generalize World.alloc _ _ = W at *
  have zW := Below.lt_of' R0
  have hl1 : ad.block < W.heap.size := by omega
  have hl2 : ad.block ≠ W.heap.size := by omega
  have hx' : W.cell? ad = some (.int .i64 x) := by
    obtain ⟨ad', e, _, hx2⟩ := I0.at_ 0 (by omega)
    cases e
    rw [HX.out] at hx2
    simpa [Addr.add] using hx2
  clear hx
  go_upto_region 3 with fail
  go_region
  obtain ⟨R1, P1, B1, I1, z1⟩ := ff_open (t' := 32) (f := #[.int .i64 0, .int .i64 (x / 8 % 8), .int .i64 0, .int .i64 0, .int .i64 0, .int .i64 0, .int .i64 0, .slice none 0 0]) R0 B0 I0 hB
  generalize World.drew _ = Y at *
  generalize hg1 : W.heap.size = g1 at *
  clear R0 B0 I0 hx' hl2
  have ng : g ≠ g1 := by omega
  obtain ⟨c0, c1, c2, c3, c4, c5, c6, c7⟩ := fr_cells P1
  obtain ⟨f0, f1, f2, f3, f4, f5, f6, f7⟩ := fr_frozen P1
  have ID : IntsAt Y 0 none 0 0 D := by rw [← HDe.out]; exact IntsAt.nil _ _ _ _ (by unfold maxLen; omega)
  have O3 : IOwn Y (g1 + 1) (.slice none 0 0) D := by rw [← HDe.out]; exact IOwn.nil _ _
  have P3 := P1; have R3 := R1; have B3 := B1; have I3 := I1
  clear c0 c1 c2 c3 c4 c5 c6 c7 f0 f1 f2 f3 f4 f5 f6 f7 P1 R1 B1 I1
  obtain ⟨c0, c1, c2, c3, c4, c5, c6, c7⟩ := fr_cells P3
  go_upto_region 11 with (first
    | (go_at_call 73; with_reducible refine (i_hasS_no 0 _ (by decide)).mono ?_; rintro e w' ⟨rfl, rfl⟩)
    | (go_at_call 97; with_reducible refine (i_hasD_yes 0 _ (by decide)).mono ?_; rintro e w' ⟨rfl, rfl⟩)
    | fail)
  all_goals (generalize hZ : Y = Z at *)
  all_goals clear hZ c0 c1 c2 c3 c4 c5 c6 c7
  all_goals
    have zZ := Below.lt_of' P3
    have CI := i_IsFrame 0 (x / 8 % 8) 0 0 0 0 0 none 0 0 D _ Z ID ((by omega))
    have HF0 := Hfb.out
    obtain ⟨d0, d1, d2, d3, d4, d5, d6, d7⟩ := fr_cells P3
    cases hf : frOk 0 (x / 8 % 8) 0 0 0 0 0 D
    · rw [hf] at CI HF0
      have HF := Lib.hid (HF0.trans (Bool.false_and _))
      clear HF0 Hfb
      go_wp2_with (first
        | (go_at_call 39; refine CI.mono ?_; rintro e Z5 ⟨rfl, b5⟩; have R5 := (b5.block g (by omega)).trans R3; have B5 := B3.trans (b5.mono (by omega)); obtain ⟨c0, c1, c2', c3, c4, c5, c6, c7⟩ := fr_cells R5; obtain ⟨f0, f1, f2, f3, f4, f5, f6, f7⟩ := fr_frozen R5)
        | fail)
      all_goals
        have RR := eight_heap (v0 := .int .i64 0) (v1 := .int .i64 0) (v2 := .int .i64 0) (v3 := .int .i64 0) (v4 := .int .i64 0) (v5 := .int .i64 0) (v6 := .int .i64 0) (v7 := .slice none 0 0) R5
        have BB := below_eight (v0 := .int .i64 0) (v1 := .int .i64 0) (v2 := .int .i64 0) (v3 := .int .i64 0) (v4 := .int .i64 0) (v5 := .int .i64 0) (v6 := .int .i64 0) (v7 := .slice none 0 0) B5 (Nat.le_refl g)
        clear c0 c1 c2' c3 c4 c5 c6 c7 f0 f1 f2 f3 f4 f5 f6 f7 R5 B5
        revert RR BB
        generalize World.setCell _ _ _ = Y9
        intro RR BB
        obtain ⟨e0, e1, e2, e3, e4, e5, e6, e7⟩ := fr_cells RR
        go_wp2
        exact bodyPost_ret (v := .tuple #[.agg #[.int .i64 0, .int .i64 0, .int .i64 0, .int .i64 0, .int .i64 0, .int .i64 0, .int .i64 0, .slice none 0 0], .bool false]) (by simp [results, Try.results59, go_sem, e0, e1, e2, e3, e4, e5, e6, e7]) rfl ⟨0, 0, 0, 0, 0, 0, 0, none, 0, 0, by rw [HF.out], (fun h => by rw [HF.out] at h; cases h), by rw [hg]; exact BB⟩
    · rw [hf, Bool.true_and] at HF0
      rw [hf] at CI
      have CB := fun W' hI' hB' => i_body 0 (x / 8 % 8) 0 0 0 0 0 none 0 0 D 0 W' hI' hB' hf
      have hbs := body_small hf
      generalize hLe : bodyL 0 (x / 8 % 8) 0 0 0 0 0 D = L at *
      clear hLe
      cases he : eqL L xs
      · rw [he] at HF0
        have HF := Lib.hid HF0
        clear HF0 Hfb
        go_wp2_with (first
          | (go_at_call 39; refine CI.mono ?_; rintro e Z5 ⟨rfl, b5⟩; have z5 := b5.size; have R5 := (b5.block g (by omega)).trans R3; have P5 := (b5.block g1 (by omega)).trans P3; have B5 := B3.trans (b5.mono (by omega)); have ID5 := ID.below' ((by omega)) b5; have I5 := I3.below' (by omega) b5; obtain ⟨d0, d1, d2, d3, d4, d5, d6, d7⟩ := fr_cells P5)
          | (go_at_call 54; refine (CB _ ID5 ((by omega))).mono ?_; rintro e Z6 ⟨u6, rfl, o6, b6⟩; obtain ⟨A6, cc6, rfl, i6⟩ := o6.ints (by omega); have R6 := (b6.block g (by omega)).trans R5; have B6 := B5.trans (b6.mono (by omega)); have I6 := I5.below' (by omega) b6)
          | (go_at_call 71; refine (l_Equal _ _ _ _ _ _ L xs _ _ _ i6 I6).mono ?_; rintro e Z7 ⟨rfl, m7, rfl⟩; have R7 : (Z6.drewN m7).heap[g]? = _ := R6; have B7 := below_drewN B6 m7; obtain ⟨c0, c1, c2', c3, c4, c5, c6, c7⟩ := fr_cells R7; obtain ⟨f0, f1, f2, f3, f4, f5, f6, f7⟩ := fr_frozen R7)
          | fail)
        all_goals
          have RR := eight_heap (v0 := .int .i64 0) (v1 := .int .i64 0) (v2 := .int .i64 0) (v3 := .int .i64 0) (v4 := .int .i64 0) (v5 := .int .i64 0) (v6 := .int .i64 0) (v7 := .slice none 0 0) R7
          have BB := below_eight (v0 := .int .i64 0) (v1 := .int .i64 0) (v2 := .int .i64 0) (v3 := .int .i64 0) (v4 := .int .i64 0) (v5 := .int .i64 0) (v6 := .int .i64 0) (v7 := .slice none 0 0) B7 (Nat.le_refl g)
          clear c0 c1 c2' c3 c4 c5 c6 c7 f0 f1 f2 f3 f4 f5 f6 f7 R7 B7
          revert RR BB
          generalize World.setCell _ _ _ = Y9
          intro RR BB
          obtain ⟨e0, e1, e2, e3, e4, e5, e6, e7⟩ := fr_cells RR
          go_wp2
          exact bodyPost_ret (v := .tuple #[.agg #[.int .i64 0, .int .i64 0, .int .i64 0, .int .i64 0, .int .i64 0, .int .i64 0, .int .i64 0, .slice none 0 0], .bool false]) (by simp [results, Try.results59, go_sem, e0, e1, e2, e3, e4, e5, e6, e7]) rfl ⟨0, 0, 0, 0, 0, 0, 0, none, 0, 0, by rw [HF.out], (fun h => by rw [HF.out] at h; cases h), by rw [hg]; exact BB⟩
      · rw [he] at HF0
        have HF := Lib.hid HF0
        clear HF0 Hfb
        go_wp2_with (first
          | (go_at_call 39; refine CI.mono ?_; rintro e Z5 ⟨rfl, b5⟩; have z5 := b5.size; have R5 := (b5.block g (by omega)).trans R3; have P5 := (b5.block g1 (by omega)).trans P3; have B5 := B3.trans (b5.mono (by omega)); have ID5 := ID.below' ((by omega)) b5; have I5 := I3.below' (by omega) b5; have O5 := O3.below_ b5; obtain ⟨d0, d1, d2, d3, d4, d5, d6, d7⟩ := fr_cells P5)
          | (go_at_call 54; refine (CB _ ID5 ((by omega))).mono ?_; rintro e Z6 ⟨u6, rfl, o6, b6⟩; obtain ⟨A6, cc6, rfl, i6⟩ := o6.ints (by omega); have R6 := (b6.block g (by omega)).trans R5; have P6 := (b6.block g1 (by omega)).trans P5; have B6 := B5.trans (b6.mono (by omega)); have I6 := I5.below' (by omega) b6; have O6 := O5.below_ b6)
          | (go_at_call 71; refine (l_Equal _ _ _ _ _ _ L xs _ _ _ i6 I6).mono ?_; rintro e Z7 ⟨rfl, m7, rfl⟩; have R7 : (Z6.drewN m7).heap[g]? = _ := R6; have P7 : (Z6.drewN m7).heap[g1]? = _ := P6; have B7 := below_drewN B6 m7; have O7 := O6.drewN m7; obtain ⟨c0, c1, c2', c3, c4, c5, c6, c7⟩ := fr_cells R7; obtain ⟨f0, f1, f2, f3, f4, f5, f6, f7⟩ := fr_frozen R7; obtain ⟨d0, d1, d2, d3, d4, d5, d6, d7⟩ := fr_cells P7)
          | fail)
        all_goals
          have RR := eight_heap (v0 := .int .i64 0) (v1 := .int .i64 (x / 8 % 8)) (v2 := .int .i64 0) (v3 := .int .i64 0) (v4 := .int .i64 0) (v5 := .int .i64 0) (v6 := .int .i64 0) (v7 := .slice none 0 0) R7
          have BB := below_eight (v0 := .int .i64 0) (v1 := .int .i64 (x / 8 % 8)) (v2 := .int .i64 0) (v3 := .int .i64 0) (v4 := .int .i64 0) (v5 := .int .i64 0) (v6 := .int .i64 0) (v7 := .slice none 0 0) B7 (Nat.le_refl g)
          have OO := O7.eight (g := g) (by omega) (.int .i64 0) (.int .i64 (x / 8 % 8)) (.int .i64 0) (.int .i64 0) (.int .i64 0) (.int .i64 0) (.int .i64 0) (.slice none 0 0)
          clear c0 c1 c2' c3 c4 c5 c6 c7 f0 f1 f2 f3 f4 f5 f6 f7 R7 B7
          revert RR BB OO
          generalize World.setCell _ _ _ = Y9
          intro RR BB OO
          obtain ⟨e0, e1, e2, e3, e4, e5, e6, e7⟩ := fr_cells RR
          go_wp2
          exact bodyPost_ret (v := .tuple #[.agg #[.int .i64 0, .int .i64 (x / 8 % 8), .int .i64 0, .int .i64 0, .int .i64 0, .int .i64 0, .int .i64 0, .slice none 0 0], .bool true]) (by simp [results, Try.results59, go_sem, e0, e1, e2, e3, e4, e5, e6, e7]) rfl ⟨0, x / 8 % 8, 0, 0, 0, 0, 0, none, 0, 0, by rw [HF.out], fun _ => ⟨HK.out.symm, HQ.out.symm, (HST.out _ _).symm, (HST.out _ _).symm, (HST.out _ _).symm, (HST.out _ _).symm, (HST.out _ _).symm, by rw [HD.out, hg]; exact OO.less (by omega)⟩, by rw [hg]; exact BB⟩
end Go.Proofs.Ytpcdachkmekjgaa

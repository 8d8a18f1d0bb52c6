/- Contracts of OpenFrame: the reference's walk. -/
import Derived.Test.YtpcdachkmekjgaaOFX
import Derived.Test.YtpcdachkmekjgaaFFU
import Derived.Deep.RegionHeld3
import Derived.BigRegion
namespace Go.Proofs.Ytpcdachkmekjgaa
open Go.RowKit
set_option linter.unusedSimpArgs false
set_option linter.unusedVariables false
set_option maxHeartbeats 4000000 in
theorem s_of_main (ad : Addr) (m c : Nat) (xs : List Int) (id T M R S V : Int) (B : Nat) (w : World) (h : IntsAt w B (some ad) (m + 3) (c + 3) xs) (hB : B ≤ w.heap.size) (hm : 1 ≤ m) (hs : stOk T M R S V = true) (hi : idOk id = true) (hb : bytesOk xs = true) :
    Calls Try.prog 68 #[.slice (some ad) (m + 3) (c + 3), .int .i64 id, .agg #[.int .i64 T, .int .i64 M, .int .i64 R, .int .i64 S, .int .i64 V]] w
      (OFQ w (if eqL (three (chkN (hdK xs) (xs.take m) id.toNat T M R S V)) (xs.drop m) then ofB (xs.take m) T M R S V else 7) (xs.take m)) := by
  obtain ⟨ad', e, hab, hx⟩ := h.at_ 0 (by omega)
  cases e
  have hle := h.le
  have hlen := h.len
  have hcm : c + 3 ≤ 9223372036854775807 := Nat.le_trans h.cap (by unfold maxLen; omega)
  have hbm := bytesOk_all hb
  have hbl := bytesOk_len hb
  obtain ⟨R0, R1⟩ := alloc2 w (.cells #[.int .i64 T, .int .i64 M, .int .i64 R, .int .i64 S, .int .i64 V] 30) (.cells #[.int .i64 0, .int .i64 0, .int .i64 0, .int .i64 0, .int .i64 0, .int .i64 0, .int .i64 0, .slice none 0 0] 32)
  have B0 := ((Below.refl w.heap.size w).alloc (Nat.le_refl _) (.cells #[.int .i64 T, .int .i64 M, .int .i64 R, .int .i64 S, .int .i64 V] 30)).alloc (by simp) (.cells #[.int .i64 0, .int .i64 0, .int .i64 0, .int .i64 0, .int .i64 0, .int .i64 0, .int .i64 0, .slice none 0 0] 32)
  have I0 := (h.alloc hB (.cells #[.int .i64 T, .int .i64 M, .int .i64 R, .int .i64 S, .int .i64 V] 30)).alloc (by simp; omega) (.cells #[.int .i64 0, .int .i64 0, .int .i64 0, .int .i64 0, .int .i64 0, .int .i64 0, .int .i64 0, .slice none 0 0] 32)
  have hbt : ∀ x ∈ xs.take m, 0 ≤ x ∧ x ≤ 255 := fun x hx => hbm x (List.mem_of_mem_take hx)
  have hbyt : bytesOk (xs.take m) = true := bytesOk_of (by rw [List.length_take]; omega) hbt
  have hN := chkN_lt (hdK xs) (xs.take m) id.toNat T M R S V (by have := idOk_bd hi; omega)
  have HK := Lib.hid (fun A' n' c' B' W' hI' hB' hn' => s_check2 (hdK xs) A' n' c' (xs.take m) id T M R S V B' W' hI' hB' hbt hn' hi hs)
  have HFF := Lib.hid (fun W' hI' hB' => s_ff (some ad) m (c + 3) (xs.take m) B W' hI' hB' hbyt)
  generalize chkN (hdK xs) (xs.take m) id.toNat T M R S V = N at *
  have hk : hdK xs = xs.getD 0 0 / 64 := rfl
  rw [hk] at HK
  obtain ⟨x0, x1⟩ := getD_of_mem hbm 0 (by omega)
  generalize hX : xs.getD 0 0 = x at hx x0 x1 hk HK
  have hd : IntKind.i64.wrap (x.tdiv 64) = x / 64 := by rw [Int.tdiv_eq_ediv_of_nonneg x0]; exact IntWalk.i64_in _ (by omega)
  have HX := Lib.hid hX; have HKX := Lib.hid hk
  have HL := Lib.hid hlen
  have htl : (xs.take m).length = m := by rw [List.length_take]; omega
  have HTL := Lib.hid htl
  have hm2 : m ≤ 2000 := by omega
  have hm3 : ∀ x ∈ xs.drop m, 0 ≤ x ∧ x ≤ 255 := fun x hx => hbm x (List.mem_of_mem_drop hx)
  have HM3 := Lib.hid hm3
  have HNL := Lib.hid hN
  clear hm3 hX hk hbm hbt h hlen htl hs hi hb hN
  go_enter Try.func68, Try.ntmps68
  go_upto_region 1 with fail
  generalize hg : w.heap.size = g at *
  generalize World.alloc _ _ = W at *
  have zW := Below.lt_of' R1
  obtain ⟨s0, s1, s2, s3, s4⟩ := cells5 R0
  have i0 : (0 : Int) < (m : Int) + 3 := by omega
  have i1 : (0 : Int) ≤ (m : Int) := by omega
  have i2 : (m : Int) ≤ (c : Int) + 3 := by omega
  have i3 : (m : Int) ≤ (m : Int) + 3 := by omega
  have i4 : ¬ ((m : Int) < 1) := by omega
  have i5 : c + 3 ≠ m := by omega
  obtain ⟨ya, yb, yc, hdrop⟩ : ∃ a b c : Int, xs.drop m = [a, b, c] := by
    have : (xs.drop m).length = 3 := by rw [List.length_drop, HL.out]; omega
    match hq : xs.drop m, this with
    | [a, b, c], _ => exact ⟨a, b, c, rfl⟩
  have I3 : IntsAt W B (some (ad.add m)) 3 (c + 3 - m) (xs.drop m) := by
    have := I0.cutFrom m (by omega)
    rw [if_neg (by omega), show m + 3 - m = 3 by omega] at this
    exact this
  have HDR := Lib.hid hdrop
  have hya := HM3.out ya (by rw [hdrop]; simp)
  have hyb := HM3.out yb (by rw [hdrop]; simp)
  have hyc := HM3.out yc (by rw [hdrop]; simp)
  rw [hdrop] at I3
  clear hdrop
  have cell3 : W.cell? (ad.add m) = some (.int .i64 ya) ∧ W.cell? (ad.add (m + 1)) = some (.int .i64 yb) ∧ W.cell? (ad.add (m + 2)) = some (.int .i64 yc) := by
    obtain ⟨a0, e0, _, k0⟩ := I3.at_ 0 (by omega)
    obtain ⟨a1, e1, _, k1⟩ := I3.at_ 1 (by omega)
    obtain ⟨a2, e2, _, k2⟩ := I3.at_ 2 (by omega)
    cases e0; cases e1; cases e2
    rw [add_add'] at k0 k1 k2
    exact ⟨by simpa using k0, by simpa using k1, by simpa using k2⟩
  obtain ⟨k0, k1, k2⟩ := cell3
  have k1' : W.cell? ⟨ad.block, ad.off + (m + 1), none⟩ = some (.int .i64 yb) := k1
  have k2' : W.cell? ⟨ad.block, ad.off + (m + 1 + 1), none⟩ = some (.int .i64 yc) := k2
  have k2'' : W.cell? ⟨ad.block, ad.off + (m + 2), none⟩ = some (.int .i64 yc) := k2
  have j1 : (m : Int) < (m : Int) + 3 := by omega
  have j2 : (m : Int) + 1 < (m : Int) + 3 := by omega
  have j3 : (m : Int) + 2 < (m : Int) + 3 := by omega
  have j4 : (0 : Int) ≤ (m : Int) + 1 := by omega
  have j5 : (0 : Int) ≤ (m : Int) + 2 := by omega
  have t1 : ((m : Int) + 1).toNat = m + 1 := by omega
  have t2 : ((m : Int) + 2).toNat = m + 2 := by omega
  have w1 : IntKind.i64.wrap ((m : Int) + 1) = (m : Int) + 1 := IntWalk.i64_in _ (by omega)
  have w2 : IntKind.i64.wrap ((m : Int) + 2) = (m : Int) + 2 := IntWalk.i64_in _ (by omega)
  go_upto_region 4 with fail
  go_region
  have hXe : eqL (three N) (xs.drop m) = ((N : Int) == ya * 65536 + yb * 256 + yc) := by
    rw [HDR.out, Bool.eq_iff_iff]
    simp only [eqL, decide_eq_true_eq, beq_iff_eq]
    exact three_inj N HNL.out ya yb yc hya hyb hyc
  have HXE := Lib.hid hXe
  clear hXe
  have RW : W.drew.drew.heap[g]? = some (.cells #[.int .i64 T, .int .i64 M, .int .i64 R, .int .i64 S, .int .i64 V] 30 (0, 0)) := R0
  have RV : W.drew.drew.heap[g + 1]? = some (.cells #[.int .i64 0, .int .i64 0, .int .i64 0, .int .i64 0, .int .i64 0, .int .i64 0, .int .i64 0, .slice none 0 0] 32 (0, 0)) := R1
  have I2 : IntsAt W.drew.drew B (some ad) m (c + 3) (xs.take m) := (I0.cutTo m (by omega)).drew.drew
  have hx' : W.drew.drew.cell? ad = some (.int .i64 x) := by
    obtain ⟨ad', e, _, hx2⟩ := I0.at_ 0 (by omega)
    cases e
    rw [HX.out] at hx2
    simpa [Addr.add] using hx2
  have zz : W.drew.drew.heap.size = W.heap.size := rfl
  have B2 := B0.drew.drew
  have i0' : (0 : Int) < (m : Int) + 3 := by omega
  obtain ⟨s0, s1, s2, s3, s4⟩ := cells5 RW
  clear k0 k1 k2 k1' k2' k2'' I3 j1 j2 j3 j4 j5 t1 t2 w1 w2
  go_upto_region 5 with fail
  go_region_held3 (fun w' => w'.cell? ad = some (.int .i64 x) ∧ w'.cell? ⟨g, 0, none⟩ = some (.int .i64 T) ∧ w'.cell? ⟨g, 1, none⟩ = some (.int .i64 M) ∧ w'.cell? ⟨g, 2, none⟩ = some (.int .i64 R) ∧ w'.cell? ⟨g, 3, none⟩ = some (.int .i64 S) ∧ w'.cell? ⟨g, 4, none⟩ = some (.int .i64 V)) (go_keep) (first
    | (go_at_call 61; with_reducible refine (HK.out _ _ _ _ _ I2 (by omega) (by omega)).mono ?_; rintro e W3 ⟨rfl, b3⟩; have z3 := b3.size; have R03 := (b3.block g (by omega)).trans RW; have R13 := (b3.block (g + 1) (by omega)).trans RV; have B3 := B2.trans (b3.mono (by omega)); have IY := I2.below' (by omega) b3; have hx3 := (b3.cell (p := ad) (by omega)).trans hx'; obtain ⟨s0, s1, s2, s3, s4⟩ := cells5 R03))
  have RY := R03
  have RQ := R13
  have BY := B3
  have zY := Below.lt_of' RQ
  clear R0 R1 RW RV R03 R13 B0 B2 B3 I0 I2 hx' hx3 s0 s1 s2 s3 s4 HK b3 hya hyb hyc HM3 HNL z3
  generalize W3 = Y at *
  generalize hys : xs.take m = ys at *
  have zgr : g ≤ g + 1 := by omega
  have zgn : g ≠ g + 1 := by omega
  generalize hgr : g + 1 = gr at *
  cases he : eqL (three N) (xs.drop m)
  · have hne : ((N : Int) != ya * 65536 + yb * 256 + yc) = true := by have hXe := HXE.out; rw [he] at hXe; simpa using hXe.symm
    clear HXE
    obtain ⟨c0, c1, c2, c3, c4, c5, c6, c7'⟩ := fr_cells RQ
    obtain ⟨f0, f1, f2, f3, f4, f5, f6, f7⟩ := fr_frozen RQ
    go_wp2_with fail
    all_goals
      have RR := eight_heap (v0 := .int .i64 0) (v1 := .int .i64 0) (v2 := .int .i64 0) (v3 := .int .i64 0) (v4 := .int .i64 0) (v5 := .int .i64 0) (v6 := .int .i64 0) (v7 := .slice none 0 0) RQ
      have BB := below_eight (v0 := .int .i64 0) (v1 := .int .i64 0) (v2 := .int .i64 0) (v3 := .int .i64 0) (v4 := .int .i64 0) (v5 := .int .i64 0) (v6 := .int .i64 0) (v7 := .slice none 0 0) BY zgr
      clear c0 c1 c2 c3 c4 c5 c6 c7' f0 f1 f2 f3 f4 f5 f6 f7 RQ BY
      revert RR BB
      generalize World.setCell _ _ _ = Y9
      intro RR BB
      obtain ⟨e0, e1, e2, e3, e4, e5, e6, e7⟩ := fr_cells RR
      go_wp2
      exact bodyPost_ret (v := .tuple #[.agg #[.int .i64 0, .int .i64 0, .int .i64 0, .int .i64 0, .int .i64 0, .int .i64 0, .int .i64 0, .slice none 0 0], .int .i64 7]) (by simp [results, Try.results68, go_sem, e0, e1, e2, e3, e4, e5, e6, e7]) rfl (show OFQ w 7 ys _ _ from ⟨_, by simp only [ofV]; rfl, IOwn.nil _ _, by rw [hg]; exact BB⟩)
  · have hne : ((N : Int) != ya * 65536 + yb * 256 + yc) = false := by have hXe := HXE.out; rw [he] at hXe; simpa using hXe.symm
    clear HXE
    cases hf : fbOk ys
    · have hO : ofB ys T M R S V = 6 := by simp [ofB, hf]
      have HF := Lib.hid hf; have HO := Lib.hid hO
      clear hO hf
      go_upto_region 8 with (go_at_call 57; refine (HFF.out _ IY (by omega)).mono ?_; rintro e W7 ⟨k, q, t, m', r, s, v, A7, n7, c7, rfl, -, b7⟩; rw [HF.out])
      have z7 := b7.size
      have R8 := (Below.heap_alloc W7 (.cells #[.int .i64 k, .int .i64 q, .int .i64 t, .int .i64 m', .int .i64 r, .int .i64 s, .int .i64 v, .slice A7 n7 c7] 32) gr (by omega)).trans ((b7.block gr (by omega)).trans RQ)
      have B8 := (BY.trans (b7.mono (by omega))).alloc (show g ≤ W7.heap.size by omega) (.cells #[.int .i64 k, .int .i64 q, .int .i64 t, .int .i64 m', .int .i64 r, .int .i64 s, .int .i64 v, .slice A7 n7 c7] 32)
      generalize W7.alloc _ = Y8 at *
      obtain ⟨c0, c1, c2, c3, c4, c5, c6, c7'⟩ := fr_cells R8
      obtain ⟨f0, f1, f2, f3, f4, f5, f6, f7⟩ := fr_frozen R8
      go_wp2_with fail
      all_goals
        have RR := eight_heap (v0 := .int .i64 0) (v1 := .int .i64 0) (v2 := .int .i64 0) (v3 := .int .i64 0) (v4 := .int .i64 0) (v5 := .int .i64 0) (v6 := .int .i64 0) (v7 := .slice none 0 0) R8
        have BB := below_eight (v0 := .int .i64 0) (v1 := .int .i64 0) (v2 := .int .i64 0) (v3 := .int .i64 0) (v4 := .int .i64 0) (v5 := .int .i64 0) (v6 := .int .i64 0) (v7 := .slice none 0 0) B8 zgr
        clear c0 c1 c2 c3 c4 c5 c6 c7' f0 f1 f2 f3 f4 f5 f6 f7 R8 B8
        revert RR BB
        generalize World.setCell _ _ _ = Y9
        intro RR BB
        obtain ⟨e0, e1, e2, e3, e4, e5, e6, e7⟩ := fr_cells RR
        go_wp2
        exact bodyPost_ret (v := .tuple #[.agg #[.int .i64 0, .int .i64 0, .int .i64 0, .int .i64 0, .int .i64 0, .int .i64 0, .int .i64 0, .slice none 0 0], .int .i64 6]) (by simp [results, Try.results68, go_sem, e0, e1, e2, e3, e4, e5, e6, e7]) rfl (by show OFQ w (ofB ys T M R S V) ys _ _; rw [HO.out]; exact ⟨_, by simp only [ofV]; rfl, IOwn.nil _ _, by rw [hg]; exact BB⟩)
    · have HF := Lib.hid hf
      go_upto_region 8 with (go_at_call 57; refine (HFF.out _ IY (by omega)).mono ?_; rintro e W7 ⟨k, q, t, m', r, s, v, A7, n7, c7, rfl, hok, b7⟩; obtain ⟨rfl, rfl, rfl, rfl, rfl, rfl, rfl, o7⟩ := hok HF.out; rw [HF.out])
      have z7 := b7.size
      have R8 := (Below.heap_alloc W7 (.cells #[.int .i64 (hdK ys), .int .i64 (hdQ ys), .int .i64 (stF ys 0 16), .int .i64 (stF ys 16 4), .int .i64 (stF ys 20 4), .int .i64 (stF ys 24 8), .int .i64 (stF ys 32 32), .slice A7 n7 c7] 32) gr (by omega)).trans ((b7.block gr (by omega)).trans RQ)
      have S8 := (Below.heap_alloc W7 (.cells #[.int .i64 (hdK ys), .int .i64 (hdQ ys), .int .i64 (stF ys 0 16), .int .i64 (stF ys 16 4), .int .i64 (stF ys 20 4), .int .i64 (stF ys 24 8), .int .i64 (stF ys 32 32), .slice A7 n7 c7] 32) g (by omega)).trans ((b7.block g (by omega)).trans RY)
      have P8 := heap_alloc_new W7 (.cells #[.int .i64 (hdK ys), .int .i64 (hdQ ys), .int .i64 (stF ys 0 16), .int .i64 (stF ys 16 4), .int .i64 (stF ys 20 4), .int .i64 (stF ys 24 8), .int .i64 (stF ys 32 32), .slice A7 n7 c7] 32)
      have B8 := (BY.trans (b7.mono (by omega))).alloc (show g ≤ W7.heap.size by omega) (.cells #[.int .i64 (hdK ys), .int .i64 (hdQ ys), .int .i64 (stF ys 0 16), .int .i64 (stF ys 16 4), .int .i64 (stF ys 20 4), .int .i64 (stF ys 24 8), .int .i64 (stF ys 32 32), .slice A7 n7 c7] 32)
      have O8 := o7.alloc (.cells #[.int .i64 (hdK ys), .int .i64 (hdQ ys), .int .i64 (stF ys 0 16), .int .i64 (stF ys 16 4), .int .i64 (stF ys 20 4), .int .i64 (stF ys 24 8), .int .i64 (stF ys 32 32), .slice A7 n7 c7] 32)
      generalize W7.alloc _ = Y8 at *
      generalize W7.heap.size = g7 at *
      obtain ⟨c0, c1, c2, c3, c4, c5, c6, c7'⟩ := fr_cells R8
      obtain ⟨f0, f1, f2, f3, f4, f5, f6, f7⟩ := fr_frozen R8
      obtain ⟨d0, d1, d2, d3, d4, d5, d6, d7⟩ := fr_cells P8
      obtain ⟨s0, s1, s2, s3, s4⟩ := cells5 S8
      by_cases hk0 : hdK ys = 0
      · have HO := Lib.hid (show ofB ys T M R S V = 0 by simp [ofB, hf, hk0])
        have HK0 := Lib.hid hk0
        clear hk0 hf
        go_wp2_with (first | (go_at_call 88; refine (s_hasS_no (hdK ys) _ HK0.out).mono ?_; rintro e w' ⟨rfl, rfl⟩))
        all_goals
          have RR := eight_heap (v0 := .int .i64 (hdK ys)) (v1 := .int .i64 (hdQ ys)) (v2 := .int .i64 (stF ys 0 16)) (v3 := .int .i64 (stF ys 16 4)) (v4 := .int .i64 (stF ys 20 4)) (v5 := .int .i64 (stF ys 24 8)) (v6 := .int .i64 (stF ys 32 32)) (v7 := .slice A7 n7 c7) R8
          have BB := below_eight (v0 := .int .i64 (hdK ys)) (v1 := .int .i64 (hdQ ys)) (v2 := .int .i64 (stF ys 0 16)) (v3 := .int .i64 (stF ys 16 4)) (v4 := .int .i64 (stF ys 20 4)) (v5 := .int .i64 (stF ys 24 8)) (v6 := .int .i64 (stF ys 32 32)) (v7 := .slice A7 n7 c7) B8 zgr
          have OO := O8.eight (g := gr) (by omega) (.int .i64 (hdK ys)) (.int .i64 (hdQ ys)) (.int .i64 (stF ys 0 16)) (.int .i64 (stF ys 16 4)) (.int .i64 (stF ys 20 4)) (.int .i64 (stF ys 24 8)) (.int .i64 (stF ys 32 32)) (.slice A7 n7 c7)
          clear c0 c1 c2 c3 c4 c5 c6 c7' f0 f1 f2 f3 f4 f5 f6 f7 R8 B8
          revert RR BB OO
          generalize World.setCell _ _ _ = Y9
          intro RR BB OO
          obtain ⟨e0, e1, e2, e3, e4, e5, e6, e7⟩ := fr_cells RR
          go_wp2
          exact bodyPost_ret (v := .tuple #[.agg #[.int .i64 (hdK ys), .int .i64 (hdQ ys), .int .i64 (stF ys 0 16), .int .i64 (stF ys 16 4), .int .i64 (stF ys 20 4), .int .i64 (stF ys 24 8), .int .i64 (stF ys 32 32), .slice A7 n7 c7], .int .i64 0]) (by simp [results, Try.results68, go_sem, e0, e1, e2, e3, e4, e5, e6, e7]) rfl (by show OFQ w (ofB ys T M R S V) ys _ _; rw [HO.out]; exact ⟨.slice A7 n7 c7, by simp [ofV], (by rw [if_pos rfl, hg]; exact OO.less (by omega)), by rw [hg]; exact BB⟩)
      · have hO : ofB ys T M R S V = if stSame ys T M R S V = true then 0 else 5 := by simp [ofB, hf, hk0]
        have HK0 := Lib.hid hk0
        clear hk0 hf
        rcases same_ways (stF ys 0 16) (stF ys 16 4) (stF ys 20 4) (stF ys 24 8) (stF ys 32 32) T M R S V with ⟨q0, q1, q2, q3, q4⟩ | q0 | ⟨q0, q1⟩ | ⟨q0, q1, q2⟩ | ⟨q0, q1, q2, q3⟩ | ⟨q0, q1, q2, q3, q4⟩
        · have HO := Lib.hid (hO.trans (if_pos (by simp only [stSame, decide_eq_true_eq]; exact ⟨beq_iff_eq.1 q0, beq_iff_eq.1 q1, beq_iff_eq.1 q2, beq_iff_eq.1 q3, beq_iff_eq.1 q4⟩)))
          clear hO
          go_wp2_with (first | (go_at_call 88; refine (s_hasS_yes (hdK ys) _ HK0.out).mono ?_; rintro e w' ⟨rfl, rfl⟩))
          all_goals
            have RR := eight_heap (v0 := .int .i64 (hdK ys)) (v1 := .int .i64 (hdQ ys)) (v2 := .int .i64 (stF ys 0 16)) (v3 := .int .i64 (stF ys 16 4)) (v4 := .int .i64 (stF ys 20 4)) (v5 := .int .i64 (stF ys 24 8)) (v6 := .int .i64 (stF ys 32 32)) (v7 := .slice A7 n7 c7) R8
            have BB := below_eight (v0 := .int .i64 (hdK ys)) (v1 := .int .i64 (hdQ ys)) (v2 := .int .i64 (stF ys 0 16)) (v3 := .int .i64 (stF ys 16 4)) (v4 := .int .i64 (stF ys 20 4)) (v5 := .int .i64 (stF ys 24 8)) (v6 := .int .i64 (stF ys 32 32)) (v7 := .slice A7 n7 c7) B8 zgr
            have OO := O8.eight (g := gr) (by omega) (.int .i64 (hdK ys)) (.int .i64 (hdQ ys)) (.int .i64 (stF ys 0 16)) (.int .i64 (stF ys 16 4)) (.int .i64 (stF ys 20 4)) (.int .i64 (stF ys 24 8)) (.int .i64 (stF ys 32 32)) (.slice A7 n7 c7)
            clear c0 c1 c2 c3 c4 c5 c6 c7' f0 f1 f2 f3 f4 f5 f6 f7 R8 B8
            revert RR BB OO
            generalize World.setCell _ _ _ = Y9
            intro RR BB OO
            obtain ⟨e0, e1, e2, e3, e4, e5, e6, e7⟩ := fr_cells RR
            go_wp2
            exact bodyPost_ret (v := .tuple #[.agg #[.int .i64 (hdK ys), .int .i64 (hdQ ys), .int .i64 (stF ys 0 16), .int .i64 (stF ys 16 4), .int .i64 (stF ys 20 4), .int .i64 (stF ys 24 8), .int .i64 (stF ys 32 32), .slice A7 n7 c7], .int .i64 0]) (by simp [results, Try.results68, go_sem, e0, e1, e2, e3, e4, e5, e6, e7]) rfl (by show OFQ w (ofB ys T M R S V) ys _ _; rw [HO.out]; exact ⟨.slice A7 n7 c7, by simp [ofV], (by rw [if_pos rfl, hg]; exact OO.less (by omega)), by rw [hg]; exact BB⟩)
        all_goals
          have HO := Lib.hid (hO.trans (if_neg (by simp_all [stSame])))
          clear hO
          go_wp2_with (first | (go_at_call 88; refine (s_hasS_yes (hdK ys) _ HK0.out).mono ?_; rintro e w' ⟨rfl, rfl⟩))
          all_goals
            have RR := eight_heap (v0 := .int .i64 0) (v1 := .int .i64 0) (v2 := .int .i64 0) (v3 := .int .i64 0) (v4 := .int .i64 0) (v5 := .int .i64 0) (v6 := .int .i64 0) (v7 := .slice none 0 0) R8
            have BB := below_eight (v0 := .int .i64 0) (v1 := .int .i64 0) (v2 := .int .i64 0) (v3 := .int .i64 0) (v4 := .int .i64 0) (v5 := .int .i64 0) (v6 := .int .i64 0) (v7 := .slice none 0 0) B8 zgr
            clear c0 c1 c2 c3 c4 c5 c6 c7' f0 f1 f2 f3 f4 f5 f6 f7 R8 B8
            revert RR BB
            generalize World.setCell _ _ _ = Y9
            intro RR BB
            obtain ⟨e0, e1, e2, e3, e4, e5, e6, e7⟩ := fr_cells RR
            go_wp2
            exact bodyPost_ret (v := .tuple #[.agg #[.int .i64 0, .int .i64 0, .int .i64 0, .int .i64 0, .int .i64 0, .int .i64 0, .int .i64 0, .slice none 0 0], .int .i64 5]) (by simp [results, Try.results68, go_sem, e0, e1, e2, e3, e4, e5, e6, e7]) rfl (by show OFQ w (ofB ys T M R S V) ys _ _; rw [HO.out]; exact ⟨_, by simp only [ofV]; rfl, IOwn.nil _ _, by rw [hg]; exact BB⟩)
end Go.Proofs.Ytpcdachkmekjgaa

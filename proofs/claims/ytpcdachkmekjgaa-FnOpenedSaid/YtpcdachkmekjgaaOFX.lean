/- Contracts of OpenFrame: plain codes, the program's walk. -/
import Derived.Test.YtpcdachkmekjgaaOFD
import Derived.Test.YtpcdachkmekjgaaFFT
import Derived.Test.YtpcdachkmekjgaaSeal3
import Derived.Deep.RegionHeld3
import Derived.BigRegion
namespace Go.Proofs.Ytpcdachkmekjgaa
open Go.RowKit
set_option linter.unusedSimpArgs false
set_option linter.unusedVariables false
theorem same_ways (t m r s v T M R S V : Int) :
    ((t == T) = true ∧ (m == M) = true ∧ (r == R) = true ∧ (s == S) = true ∧ (v == V) = true) ∨ ((t == T) = false) ∨ ((t == T) = true ∧ (m == M) = false) ∨ ((t == T) = true ∧ (m == M) = true ∧ (r == R) = false) ∨
    ((t == T) = true ∧ (m == M) = true ∧ (r == R) = true ∧ (s == S) = false) ∨ ((t == T) = true ∧ (m == M) = true ∧ (r == R) = true ∧ (s == S) = true ∧ (v == V) = false) := by
  cases (t == T) <;> cases (m == M) <;> cases (r == R) <;> cases (s == S) <;> cases (v == V) <;> simp
set_option maxHeartbeats 4000000 in
theorem i_of_main (ad : Addr) (m c : Nat) (xs : List Int) (id T M R S V : Int) (B : Nat) (w : World) (h : IntsAt w B (some ad) (m + 3) (c + 3) xs) (hB : B ≤ w.heap.size) (hm : 1 ≤ m) (hs : stOk T M R S V = true) (hi : idOk id = true) (hb : bytesOk xs = true) :
    Calls Try.prog 35 #[.slice (some ad) (m + 3) (c + 3), .int .i64 id, .agg #[.int .i64 T, .int .i64 M, .int .i64 R, .int .i64 S, .int .i64 V]] w
      (OFQ w (if eqL (three (chkN (hdK xs) (xs.take m) id.toNat T M R S V)) (xs.drop m) then ofB (xs.take m) T M R S V else 7) (xs.take m)) := by
  obtain ⟨ad', e, hab, hx⟩ := h.at_ 0 (by omega)
  cases e
  have hle := h.le
  have hlen := h.len
  have hcm : c + 3 ≤ 9223372036854775807 := Nat.le_trans h.cap (by unfold maxLen; omega)
  have hbm := bytesOk_all hb
  have hbl := bytesOk_len hb
  obtain ⟨R0, R1⟩ := alloc2 w (.cells #[.int .i64 T, .int .i64 M, .int .i64 R, .int .i64 S, .int .i64 V] 30) (.cells #[.int .i64 0, .int .i64 0, .int .i64 0, .int .i64 0, .int .i64 0, .int .i64 0, .int .i64 0, .slice none 0 0] 32)
  have B0 := ((Below.refl w.heap.size w).alloc (Nat.le_refl _) (.cells #[.int .i64 T, .int .i64 M, .int .i64 R, .int .i64 S, .int .i64 V] 30)).alloc (by simp) (.cells #[.int .i64 0, .int .i64 0, .int .i64 0, .int .i64 0, .int .i64 0, .int .i64 0, .int .i64 0, .slice none 0 0] 32)
  have I0 := (h.alloc hB (.cells #[.int .i64 T, .int .i64 M, .int .i64 R, .int .i64 S, .int .i64 V] 30)).alloc (by simp; omega) (.cells #[.int .i64 0, .int .i64 0, .int .i64 0, .int .i64 0, .int .i64 0, .int .i64 0, .int .i64 0, .slice none 0 0] 32)
  have hbt : ∀ x ∈ xs.take m, 0 ≤ x ∧ x ≤ 255 := fun x hx => hbm x (List.mem_of_mem_take hx)
  have hbyt : bytesOk (xs.take m) = true := bytesOk_of (by rw [List.length_take]; omega) hbt
  have hN := chkN_lt (hdK xs) (xs.take m) id.toNat T M R S V (by have := idOk_bd hi; omega)
  have HK := Lib.hid (fun A' n' c' B' W' hI' hB' hn' => i_check2 (hdK xs) A' n' c' (xs.take m) id T M R S V B' W' hI' hB' hbt hn' hi hs)
  have HST := Lib.hid (fun W' => i_IsState T M R S V W')
  have HID := Lib.hid (fun W' => i_isId id W')
  have HBY := Lib.hid (fun A' n' c' B' W' hI' => i_IsBytes A' n' c' xs B' W' hI')
  rw [hs] at HST
  rw [hi] at HID
  rw [hb] at HBY
  have HFF := Lib.hid (fun W' hI' hB' => i_ff (some ad) m (c + 3) (xs.take m) B W' hI' hB' hbyt)
  generalize chkN (hdK xs) (xs.take m) id.toNat T M R S V = N at *
  have hk : hdK xs = xs.getD 0 0 / 64 := rfl
  rw [hk] at HK
  obtain ⟨x0, x1⟩ := getD_of_mem hbm 0 (by omega)
  generalize hX : xs.getD 0 0 = x at hx x0 x1 hk HK
  have hd : IntKind.i64.wrap (x.tdiv 64) = x / 64 := by rw [Int.tdiv_eq_ediv_of_nonneg x0]; exact IntWalk.i64_in _ (by omega)
  have HX := Lib.hid hX; have HKX := Lib.hid hk
  have HT3 := Lib.hid (fun W' => i_threeBytes N W' hN)
  have HL := Lib.hid hlen
  have htl : (xs.take m).length = m := by rw [List.length_take]; omega
  have HTL := Lib.hid htl
  have hm2 : m ≤ 2000 := by omega
  clear hX hk hbm hbt h hlen htl hs hi hb hN
  go_enter Try.func35, Try.ntmps35
  go_upto_region 1 with fail
  generalize hg : w.heap.size = g at *
  generalize World.alloc _ _ = W at *
  have zW := Below.lt_of' R1
  obtain ⟨s0, s1, s2, s3, s4⟩ := cells5 R0
  have i0 : (0 : Int) < (m : Int) + 3 := by omega
  have i1 : (0 : Int) ≤ (m : Int) := by omega
  have i2 : (m : Int) ≤ (c : Int) + 3 := by omega
  have i3 : (m : Int) ≤ (m : Int) + 3 := by omega
  have i4 : ¬ ((m : Int) < 1) := by omega
  have i5 : c + 3 ≠ m := by omega
  go_upto_region 8 with (first
    | (go_at_call 69; refine (HST.out _).mono ?_; rintro e W1 ⟨rfl, b1⟩; have z1 := b1.size; have R01 := (b1.block g (by omega)).trans R0; have R11 := (b1.block (g + 1) (by omega)).trans R1; have B1 := B0.trans (b1.mono (by omega)); have I1 := I0.below' (by omega) b1)
    | (go_at_call 70; refine (HID.out _).mono ?_; rintro e w' ⟨rfl, rfl⟩)
    | (go_at_call 58; refine (HBY.out _ _ _ _ _ I1).mono ?_; rintro e w' ⟨rfl, rfl⟩))
  have hx' : W1.drew.cell? ad = some (.int .i64 x) := by
    obtain ⟨ad', e, _, hx2⟩ := I1.at_ 0 (by omega)
    cases e
    rw [HX.out] at hx2
    simpa [Addr.add] using hx2
  have I2 : IntsAt W1.drew B (some ad) m (c + 3) (xs.take m) := (I1.cutTo m (by omega)).drew
  have I3 : IntsAt W1.drew B (some (ad.add m)) 3 (c + 3 - m) (xs.drop m) := by
    have := I1.cutFrom m (by omega)
    rw [if_neg (by omega), show m + 3 - m = 3 by omega] at this
    exact this.drew
  have R02 : W1.drew.heap[g]? = _ := R01
  have R12 : W1.drew.heap[g + 1]? = _ := R11
  have zz : W1.drew.heap.size = W1.heap.size := rfl
  obtain ⟨s0, s1, s2, s3, s4⟩ := cells5 R02
  have hl1 : ad.block < W1.heap.size := by omega
  have B2 := B1.drew
  go_region_held3 (fun w' => w'.cell? ad = some (.int .i64 x) ∧ w'.cell? ⟨g, 0, none⟩ = some (.int .i64 T) ∧ w'.cell? ⟨g, 1, none⟩ = some (.int .i64 M) ∧ w'.cell? ⟨g, 2, none⟩ = some (.int .i64 R) ∧ w'.cell? ⟨g, 3, none⟩ = some (.int .i64 S) ∧ w'.cell? ⟨g, 4, none⟩ = some (.int .i64 V)) (go_keep) (first
    | (go_at_call 71; with_reducible refine (l_Equal _ _ _ _ _ _ (three N) (xs.drop m) _ _ _ i5' I5).mono ?_; rintro e W6 ⟨rfl, m6, rfl⟩)
    | (go_at_call 72; refine (HT3.out _).mono ?_; rintro e W5 ⟨u5, rfl, o5, b5⟩; obtain ⟨A5, c5, rfl, i5'⟩ := o5.ints (by simp [three]); have z5 := b5.size; have R05 := (b5.block g (by omega)).trans R03; have R15 := (b5.block (g + 1) (by omega)).trans R13; have IY5 := IY3.below' (by omega) b5; have B5 := B3.trans (b5.mono (by omega)); have I5 := I33.below' (by omega) b5; have hx5 := (b5.cell (p := ad) (by omega)).trans hx3; obtain ⟨s0, s1, s2, s3, s4⟩ := cells5 R05)
    | (go_at_call 63; with_reducible refine (HK.out _ _ _ _ _ I2 (by omega) (by omega)).mono ?_; rintro e W3 ⟨rfl, b3⟩; have z3 := b3.size; have R03 := (b3.block g (by omega)).trans R02; have R13 := (b3.block (g + 1) (by omega)).trans R12; have IY3 := I2.below' (by omega) b3; have B3 := B2.trans (b3.mono (by omega)); have I33 := I3.below' (by omega) b3; have hx3 := (b3.cell (p := ad) (by omega)).trans hx'; obtain ⟨s0, s1, s2, s3, s4⟩ := cells5 R03))
  have RY : (W5.drewN m6).heap[g]? = some (.cells #[.int .i64 T, .int .i64 M, .int .i64 R, .int .i64 S, .int .i64 V] 30 (0, 0)) := R05
  have RQ : (W5.drewN m6).heap[g + 1]? = some (.cells #[.int .i64 0, .int .i64 0, .int .i64 0, .int .i64 0, .int .i64 0, .int .i64 0, .int .i64 0, .slice none 0 0] 32 (0, 0)) := R15
  have BY := below_drewN B5 m6
  have IY := IY5.drewN m6
  have zY := Below.lt_of' RQ
  clear R0 R1 R01 R11 R02 R12 R03 R13 R05 R15 B0 B1 B2 B3 B5 I0 I1 I2 I3 I33 I5 IY3 IY5 hx' hx3 hx5 s0 s1 s2 s3 s4 i5' o5 HK HT3 HST HID HBY b1 b3 b5
  generalize W5.drewN m6 = Y at *
  generalize hys : xs.take m = ys at *
  have zgr : g ≤ g + 1 := by omega
  have zgn : g ≠ g + 1 := by omega
  generalize hgr : g + 1 = gr at *
  cases he : eqL (three N) (xs.drop m)
  · obtain ⟨c0, c1, c2, c3, c4, c5, c6, c7'⟩ := fr_cells RQ
    obtain ⟨f0, f1, f2, f3, f4, f5, f6, f7⟩ := fr_frozen RQ
    go_wp2_with fail
    all_goals
      have RR := eight_heap (v0 := .int .i64 0) (v1 := .int .i64 0) (v2 := .int .i64 0) (v3 := .int .i64 0) (v4 := .int .i64 0) (v5 := .int .i64 0) (v6 := .int .i64 0) (v7 := .slice none 0 0) RQ
      have BB := below_eight (v0 := .int .i64 0) (v1 := .int .i64 0) (v2 := .int .i64 0) (v3 := .int .i64 0) (v4 := .int .i64 0) (v5 := .int .i64 0) (v6 := .int .i64 0) (v7 := .slice none 0 0) BY zgr
      clear c0 c1 c2 c3 c4 c5 c6 c7' f0 f1 f2 f3 f4 f5 f6 f7 RQ BY
      revert RR BB
      generalize World.setCell _ _ _ = Y9
      intro RR BB
      obtain ⟨e0, e1, e2, e3, e4, e5, e6, e7⟩ := fr_cells RR
      go_wp2
      exact bodyPost_ret (v := .tuple #[.agg #[.int .i64 0, .int .i64 0, .int .i64 0, .int .i64 0, .int .i64 0, .int .i64 0, .int .i64 0, .slice none 0 0], .int .i64 7]) (by simp [results, Try.results35, go_sem, e0, e1, e2, e3, e4, e5, e6, e7]) rfl (show OFQ w 7 ys _ _ from ⟨_, by simp only [ofV]; rfl, IOwn.nil _ _, by rw [hg]; exact BB⟩)
  · cases hf : fbOk ys
    · have hO : ofB ys T M R S V = 6 := by simp [ofB, hf]
      have HF := Lib.hid hf; have HO := Lib.hid hO
      clear hO hf
      go_upto_region 11 with (go_at_call 59; refine (HFF.out _ IY (by omega)).mono ?_; rintro e W7 ⟨k, q, t, m', r, s, v, A7, n7, c7, rfl, -, b7⟩; rw [HF.out])
      have z7 := b7.size
      have R8 := (Below.heap_alloc W7 (.cells #[.int .i64 k, .int .i64 q, .int .i64 t, .int .i64 m', .int .i64 r, .int .i64 s, .int .i64 v, .slice A7 n7 c7] 32) gr (by omega)).trans ((b7.block gr (by omega)).trans RQ)
      have B8 := (BY.trans (b7.mono (by omega))).alloc (show g ≤ W7.heap.size by omega) (.cells #[.int .i64 k, .int .i64 q, .int .i64 t, .int .i64 m', .int .i64 r, .int .i64 s, .int .i64 v, .slice A7 n7 c7] 32)
      generalize W7.alloc _ = Y8 at *
      obtain ⟨c0, c1, c2, c3, c4, c5, c6, c7'⟩ := fr_cells R8
      obtain ⟨f0, f1, f2, f3, f4, f5, f6, f7⟩ := fr_frozen R8
      go_wp2_with fail
      all_goals
        have RR := eight_heap (v0 := .int .i64 0) (v1 := .int .i64 0) (v2 := .int .i64 0) (v3 := .int .i64 0) (v4 := .int .i64 0) (v5 := .int .i64 0) (v6 := .int .i64 0) (v7 := .slice none 0 0) R8
        have BB := below_eight (v0 := .int .i64 0) (v1 := .int .i64 0) (v2 := .int .i64 0) (v3 := .int .i64 0) (v4 := .int .i64 0) (v5 := .int .i64 0) (v6 := .int .i64 0) (v7 := .slice none 0 0) B8 zgr
        clear c0 c1 c2 c3 c4 c5 c6 c7' f0 f1 f2 f3 f4 f5 f6 f7 R8 B8
        revert RR BB
        generalize World.setCell _ _ _ = Y9
        intro RR BB
        obtain ⟨e0, e1, e2, e3, e4, e5, e6, e7⟩ := fr_cells RR
        go_wp2
        exact bodyPost_ret (v := .tuple #[.agg #[.int .i64 0, .int .i64 0, .int .i64 0, .int .i64 0, .int .i64 0, .int .i64 0, .int .i64 0, .slice none 0 0], .int .i64 6]) (by simp [results, Try.results35, go_sem, e0, e1, e2, e3, e4, e5, e6, e7]) rfl (by show OFQ w (ofB ys T M R S V) ys _ _; rw [HO.out]; exact ⟨_, by simp only [ofV]; rfl, IOwn.nil _ _, by rw [hg]; exact BB⟩)
    · have HF := Lib.hid hf
      go_upto_region 11 with (go_at_call 59; refine (HFF.out _ IY (by omega)).mono ?_; rintro e W7 ⟨k, q, t, m', r, s, v, A7, n7, c7, rfl, hok, b7⟩; obtain ⟨rfl, rfl, rfl, rfl, rfl, rfl, rfl, o7⟩ := hok HF.out; rw [HF.out])
      have z7 := b7.size
      have R8 := (Below.heap_alloc W7 (.cells #[.int .i64 (hdK ys), .int .i64 (hdQ ys), .int .i64 (stF ys 0 16), .int .i64 (stF ys 16 4), .int .i64 (stF ys 20 4), .int .i64 (stF ys 24 8), .int .i64 (stF ys 32 32), .slice A7 n7 c7] 32) gr (by omega)).trans ((b7.block gr (by omega)).trans RQ)
      have S8 := (Below.heap_alloc W7 (.cells #[.int .i64 (hdK ys), .int .i64 (hdQ ys), .int .i64 (stF ys 0 16), .int .i64 (stF ys 16 4), .int .i64 (stF ys 20 4), .int .i64 (stF ys 24 8), .int .i64 (stF ys 32 32), .slice A7 n7 c7] 32) g (by omega)).trans ((b7.block g (by omega)).trans RY)
      have P8 := heap_alloc_new W7 (.cells #[.int .i64 (hdK ys), .int .i64 (hdQ ys), .int .i64 (stF ys 0 16), .int .i64 (stF ys 16 4), .int .i64 (stF ys 20 4), .int .i64 (stF ys 24 8), .int .i64 (stF ys 32 32), .slice A7 n7 c7] 32)
      have B8 := (BY.trans (b7.mono (by omega))).alloc (show g ≤ W7.heap.size by omega) (.cells #[.int .i64 (hdK ys), .int .i64 (hdQ ys), .int .i64 (stF ys 0 16), .int .i64 (stF ys 16 4), .int .i64 (stF ys 20 4), .int .i64 (stF ys 24 8), .int .i64 (stF ys 32 32), .slice A7 n7 c7] 32)
      have O8 := o7.alloc (.cells #[.int .i64 (hdK ys), .int .i64 (hdQ ys), .int .i64 (stF ys 0 16), .int .i64 (stF ys 16 4), .int .i64 (stF ys 20 4), .int .i64 (stF ys 24 8), .int .i64 (stF ys 32 32), .slice A7 n7 c7] 32)
      generalize W7.alloc _ = Y8 at *
      generalize W7.heap.size = g7 at *
      obtain ⟨c0, c1, c2, c3, c4, c5, c6, c7'⟩ := fr_cells R8
      obtain ⟨f0, f1, f2, f3, f4, f5, f6, f7⟩ := fr_frozen R8
      obtain ⟨d0, d1, d2, d3, d4, d5, d6, d7⟩ := fr_cells P8
      obtain ⟨s0, s1, s2, s3, s4⟩ := cells5 S8
      by_cases hk0 : hdK ys = 0
      · have HO := Lib.hid (show ofB ys T M R S V = 0 by simp [ofB, hf, hk0])
        have HK0 := Lib.hid hk0
        clear hk0 hf
        go_wp2_with (first | (go_at_call 73; refine (i_hasS_no (hdK ys) _ HK0.out).mono ?_; rintro e w' ⟨rfl, rfl⟩))
        all_goals
          have RR := eight_heap (v0 := .int .i64 (hdK ys)) (v1 := .int .i64 (hdQ ys)) (v2 := .int .i64 (stF ys 0 16)) (v3 := .int .i64 (stF ys 16 4)) (v4 := .int .i64 (stF ys 20 4)) (v5 := .int .i64 (stF ys 24 8)) (v6 := .int .i64 (stF ys 32 32)) (v7 := .slice A7 n7 c7) R8
          have BB := below_eight (v0 := .int .i64 (hdK ys)) (v1 := .int .i64 (hdQ ys)) (v2 := .int .i64 (stF ys 0 16)) (v3 := .int .i64 (stF ys 16 4)) (v4 := .int .i64 (stF ys 20 4)) (v5 := .int .i64 (stF ys 24 8)) (v6 := .int .i64 (stF ys 32 32)) (v7 := .slice A7 n7 c7) B8 zgr
          have OO := O8.eight (g := gr) (by omega) (.int .i64 (hdK ys)) (.int .i64 (hdQ ys)) (.int .i64 (stF ys 0 16)) (.int .i64 (stF ys 16 4)) (.int .i64 (stF ys 20 4)) (.int .i64 (stF ys 24 8)) (.int .i64 (stF ys 32 32)) (.slice A7 n7 c7)
          clear c0 c1 c2 c3 c4 c5 c6 c7' f0 f1 f2 f3 f4 f5 f6 f7 R8 B8
          revert RR BB OO
          generalize World.setCell _ _ _ = Y9
          intro RR BB OO
          obtain ⟨e0, e1, e2, e3, e4, e5, e6, e7⟩ := fr_cells RR
          go_wp2
          exact bodyPost_ret (v := .tuple #[.agg #[.int .i64 (hdK ys), .int .i64 (hdQ ys), .int .i64 (stF ys 0 16), .int .i64 (stF ys 16 4), .int .i64 (stF ys 20 4), .int .i64 (stF ys 24 8), .int .i64 (stF ys 32 32), .slice A7 n7 c7], .int .i64 0]) (by simp [results, Try.results35, go_sem, e0, e1, e2, e3, e4, e5, e6, e7]) rfl (by show OFQ w (ofB ys T M R S V) ys _ _; rw [HO.out]; exact ⟨.slice A7 n7 c7, by simp [ofV], (by rw [if_pos rfl, hg]; exact OO.less (by omega)), by rw [hg]; exact BB⟩)
      · have hO : ofB ys T M R S V = if stSame ys T M R S V = true then 0 else 5 := by simp [ofB, hf, hk0]
        have HK0 := Lib.hid hk0
        clear hk0 hf
        rcases same_ways (stF ys 0 16) (stF ys 16 4) (stF ys 20 4) (stF ys 24 8) (stF ys 32 32) T M R S V with ⟨q0, q1, q2, q3, q4⟩ | q0 | ⟨q0, q1⟩ | ⟨q0, q1, q2⟩ | ⟨q0, q1, q2, q3⟩ | ⟨q0, q1, q2, q3, q4⟩
        · have HO := Lib.hid (hO.trans (if_pos (by simp only [stSame, decide_eq_true_eq]; exact ⟨beq_iff_eq.1 q0, beq_iff_eq.1 q1, beq_iff_eq.1 q2, beq_iff_eq.1 q3, beq_iff_eq.1 q4⟩)))
          clear hO
          go_wp2_with (first | (go_at_call 73; refine (i_hasS_yes (hdK ys) _ HK0.out).mono ?_; rintro e w' ⟨rfl, rfl⟩))
          all_goals
            have RR := eight_heap (v0 := .int .i64 (hdK ys)) (v1 := .int .i64 (hdQ ys)) (v2 := .int .i64 (stF ys 0 16)) (v3 := .int .i64 (stF ys 16 4)) (v4 := .int .i64 (stF ys 20 4)) (v5 := .int .i64 (stF ys 24 8)) (v6 := .int .i64 (stF ys 32 32)) (v7 := .slice A7 n7 c7) R8
            have BB := below_eight (v0 := .int .i64 (hdK ys)) (v1 := .int .i64 (hdQ ys)) (v2 := .int .i64 (stF ys 0 16)) (v3 := .int .i64 (stF ys 16 4)) (v4 := .int .i64 (stF ys 20 4)) (v5 := .int .i64 (stF ys 24 8)) (v6 := .int .i64 (stF ys 32 32)) (v7 := .slice A7 n7 c7) B8 zgr
            have OO := O8.eight (g := gr) (by omega) (.int .i64 (hdK ys)) (.int .i64 (hdQ ys)) (.int .i64 (stF ys 0 16)) (.int .i64 (stF ys 16 4)) (.int .i64 (stF ys 20 4)) (.int .i64 (stF ys 24 8)) (.int .i64 (stF ys 32 32)) (.slice A7 n7 c7)
            clear c0 c1 c2 c3 c4 c5 c6 c7' f0 f1 f2 f3 f4 f5 f6 f7 R8 B8
            revert RR BB OO
            generalize World.setCell _ _ _ = Y9
            intro RR BB OO
            obtain ⟨e0, e1, e2, e3, e4, e5, e6, e7⟩ := fr_cells RR
            go_wp2
            exact bodyPost_ret (v := .tuple #[.agg #[.int .i64 (hdK ys), .int .i64 (hdQ ys), .int .i64 (stF ys 0 16), .int .i64 (stF ys 16 4), .int .i64 (stF ys 20 4), .int .i64 (stF ys 24 8), .int .i64 (stF ys 32 32), .slice A7 n7 c7], .int .i64 0]) (by simp [results, Try.results35, go_sem, e0, e1, e2, e3, e4, e5, e6, e7]) rfl (by show OFQ w (ofB ys T M R S V) ys _ _; rw [HO.out]; exact ⟨.slice A7 n7 c7, by simp [ofV], (by rw [if_pos rfl, hg]; exact OO.less (by omega)), by rw [hg]; exact BB⟩)
        all_goals
          have HO := Lib.hid (hO.trans (if_neg (by simp_all [stSame])))
          clear hO
          go_wp2_with (first | (go_at_call 73; refine (i_hasS_yes (hdK ys) _ HK0.out).mono ?_; rintro e w' ⟨rfl, rfl⟩))
          all_goals
            have RR := eight_heap (v0 := .int .i64 0) (v1 := .int .i64 0) (v2 := .int .i64 0) (v3 := .int .i64 0) (v4 := .int .i64 0) (v5 := .int .i64 0) (v6 := .int .i64 0) (v7 := .slice none 0 0) R8
            have BB := below_eight (v0 := .int .i64 0) (v1 := .int .i64 0) (v2 := .int .i64 0) (v3 := .int .i64 0) (v4 := .int .i64 0) (v5 := .int .i64 0) (v6 := .int .i64 0) (v7 := .slice none 0 0) B8 zgr
            clear c0 c1 c2 c3 c4 c5 c6 c7' f0 f1 f2 f3 f4 f5 f6 f7 R8 B8
            revert RR BB
            generalize World.setCell _ _ _ = Y9
            intro RR BB
            obtain ⟨e0, e1, e2, e3, e4, e5, e6, e7⟩ := fr_cells RR
            go_wp2
            exact bodyPost_ret (v := .tuple #[.agg #[.int .i64 0, .int .i64 0, .int .i64 0, .int .i64 0, .int .i64 0, .int .i64 0, .int .i64 0, .slice none 0 0], .int .i64 5]) (by simp [results, Try.results35, go_sem, e0, e1, e2, e3, e4, e5, e6, e7]) rfl (by show OFQ w (ofB ys T M R S V) ys _ _; rw [HO.out]; exact ⟨_, by simp only [ofV]; rfl, IOwn.nil _ _, by rw [hg]; exact BB⟩)
end Go.Proofs.Ytpcdachkmekjgaa

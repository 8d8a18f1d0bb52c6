/- Contracts of FrameFromBody, the program's. -/
import Derived.Test.YtpcdachkmekjgaaFFN
import Derived.Test.YtpcdachkmekjgaaFFI2
import Derived.Test.YtpcdachkmekjgaaFFI3
import Derived.Deep.RegionHeld3
import Derived.BigRegion
namespace Go.Proofs.Ytpcdachkmekjgaa
open Go.RowKit
set_option linter.unusedSimpArgs false
set_option linter.unusedVariables false
theorem i_ff (A : Option Addr) (n c : Nat) (xs : List Int) (B : Nat) (w : World) (h : IntsAt w B A n c xs) (hB : B ≤ w.heap.size) (hb : bytesOk xs = true) :
    Calls Try.prog 59 #[.slice A n c] w (FFQ w xs) := by
  have hl := h.len
  have hle := h.le
  have hsm := bytesOk_len hb
  have hbm := bytesOk_all hb
  rcases Nat.eq_zero_or_pos n with h0 | h0
  · subst h0
    rw [List.length_eq_zero_iff.1 hl]
    exact i_ff_nil A c w
  · obtain ⟨ad, rfl, -, -⟩ := h.at_ 0 h0
    have hr : 0 ≤ hdK xs ∧ hdK xs ≤ 3 := by
      have := getD_of_mem hbm 0 (by omega)
      unfold hdK
      omega
    by_cases hk : hdK xs = 0
    · by_cases h1 : n = 1
      · obtain ⟨c', rfl⟩ : ∃ c', c = c' + 1 := ⟨c - 1, by omega⟩
        subst h1
        exact i_ff_0e ad c' xs B w h hB hbm (by omega) hk
      · obtain ⟨n', rfl⟩ : ∃ n', n = n' + 2 := ⟨n - 2, by omega⟩
        obtain ⟨c', rfl⟩ : ∃ c', c = c' + 2 := ⟨c - 2, by omega⟩
        exact i_ff_0d ad n' c' xs B w h hB hbm (by omega) hk
    · by_cases h9 : n < 9
      · obtain ⟨n', rfl⟩ : ∃ n', n = n' + 1 := ⟨n - 1, by omega⟩
        obtain ⟨c', rfl⟩ : ∃ c', c = c' + 1 := ⟨c - 1, by omega⟩
        exact i_ff_short ad n' c' xs B w h hB hbm (by omega) hk
      · by_cases h2 : hdK xs = 2
        · by_cases h10 : n = 9
          · obtain ⟨c', rfl⟩ : ∃ c', c = c' + 9 := ⟨c - 9, by omega⟩
            subst h10
            exact i_ff_2e ad c' xs B w h hB hbm (by omega) h2
          · obtain ⟨n', rfl⟩ : ∃ n', n = n' + 10 := ⟨n - 10, by omega⟩
            obtain ⟨c', rfl⟩ : ∃ c', c = c' + 10 := ⟨c - 10, by omega⟩
            exact i_ff_2d ad n' c' xs B w h hB hbm (by omega) h2
        · obtain ⟨n', rfl⟩ : ∃ n', n = n' + 9 := ⟨n - 9, by omega⟩
          obtain ⟨c', rfl⟩ : ∃ c', c = c' + 9 := ⟨c - 9, by omega⟩
          by_cases h1 : hdK xs = 1
          · exact i_ff_1 ad n' c' xs B w h hB hbm (by omega) h1
          · exact i_ff_3 ad n' c' xs B w h hB hbm (by omega) (by omega)
set_option maxHeartbeats 2000000 in
theorem i_FrameFromBody (A : Option Addr) (n c : Nat) (xs : List Int) (B : Nat) (w : World) (h : IntsAt w B A n c xs) (hB : B ≤ w.heap.size) :
    Calls Try.prog 25 #[.slice A n c] w fun e w' => ∃ sl, e = .returned (.tuple #[.agg #[.int .i64 (ffV xs (hdK xs)), .int .i64 (ffV xs (hdQ xs)), .int .i64 (ffV xs (stF xs 0 16)), .int .i64 (ffV xs (stF xs 16 4)), .int .i64 (ffV xs (stF xs 20 4)), .int .i64 (ffV xs (stF xs 24 8)), .int .i64 (ffV xs (stF xs 32 32)), sl], .int .i64 (ffC xs)]) ∧ IOwn w' w.heap.size sl (if ffC xs = 0 then hdD xs else []) ∧ Below w.heap.size w w' := by
  have R0 := heap_alloc_new w (.cells #[.int .i64 0, .int .i64 0, .int .i64 0, .int .i64 0, .int .i64 0, .int .i64 0, .int .i64 0, .slice none 0 0] 32)
  have B0 := (Below.refl w.heap.size w).alloc (Nat.le_refl _) (.cells #[.int .i64 0, .int .i64 0, .int .i64 0, .int .i64 0, .int .i64 0, .int .i64 0, .int .i64 0, .slice none 0 0] 32)
  have I0 := h.alloc hB (.cells #[.int .i64 0, .int .i64 0, .int .i64 0, .int .i64 0, .int .i64 0, .int .i64 0, .int .i64 0, .slice none 0 0] 32)
  clear h
  generalize hg : w.heap.size = g at *
  cases hb : bytesOk xs
  · have hC : ffC xs = 2 := by simp [ffC, hb]
    have hV : ∀ v, ffV xs v = 0 := fun v => by simp [ffV, hC]
    rw [hC, hV, hV, hV, hV, hV, hV, hV, if_neg (by decide)]
    have CB := i_IsBytes A n c xs B _ I0
    rw [hb] at CB
    clear hC hV hb
    go_enter Try.func25, Try.ntmps25
    go_upto_region 1 with fail
    generalize World.alloc _ _ = W at *
    obtain ⟨c0, c1, c2', c3, c4, c5, c6, c7⟩ := fr_cells R0
    obtain ⟨f0, f1, f2, f3, f4, f5, f6, f7⟩ := fr_frozen R0
    go_wp2_with (first | (go_at_call 58; refine CB.mono ?_; rintro e w' ⟨rfl, rfl⟩))
    all_goals
      have RR := eight_heap (v0 := .int .i64 0) (v1 := .int .i64 0) (v2 := .int .i64 0) (v3 := .int .i64 0) (v4 := .int .i64 0) (v5 := .int .i64 0) (v6 := .int .i64 0) (v7 := .slice none 0 0) R0
      have BB := below_eight (v0 := .int .i64 0) (v1 := .int .i64 0) (v2 := .int .i64 0) (v3 := .int .i64 0) (v4 := .int .i64 0) (v5 := .int .i64 0) (v6 := .int .i64 0) (v7 := .slice none 0 0) B0 (Nat.le_refl g)
      clear c0 c1 c2' c3 c4 c5 c6 c7 f0 f1 f2 f3 f4 f5 f6 f7 R0 B0
      revert RR BB
      generalize World.setCell _ _ _ = Y9
      intro RR BB
      obtain ⟨e0, e1, e2, e3, e4, e5, e6, e7⟩ := fr_cells RR
      go_wp2
      exact bodyPost_ret (v := .tuple #[.agg #[.int .i64 0, .int .i64 0, .int .i64 0, .int .i64 0, .int .i64 0, .int .i64 0, .int .i64 0, .slice none 0 0], .int .i64 2]) (by simp [results, Try.results25, go_sem, e0, e1, e2, e3, e4, e5, e6, e7]) rfl ⟨_, rfl, IOwn.nil _ _, BB⟩
  · have CB := i_IsBytes A n c xs B _ I0
    rw [hb] at CB
    have hS := i_ff A n c xs B
    cases hf : fbOk xs
    · have hC : ffC xs = 6 := by simp [ffC, hb, hf]
      have hV : ∀ v, ffV xs v = 0 := fun v => by simp [ffV, hC]
      rw [hC, hV, hV, hV, hV, hV, hV, hV, if_neg (by decide)]
      have HS := Lib.hid (fun W hI hB' => hS W hI hB' hb)
      have HF := Lib.hid hf
      clear hC hV hb hf hS
      go_enter Try.func25, Try.ntmps25
      go_upto_region 1 with fail
      generalize World.alloc _ _ = W at *
      have zW := Below.lt_of' R0
      go_upto_region 4 with (first
        | (go_at_call 58; refine CB.mono ?_; rintro e w' ⟨rfl, rfl⟩)
        | (go_at_call 59; refine (HS.out _ I0 (by omega)).mono ?_; rintro e w2 ⟨k, q, t, m, r, s, v, A2, n2, cc2, rfl, -, b2⟩; rw [HF.out]))
      have z2 := b2.size
      have R2 := (Below.heap_alloc w2 (.cells #[.int .i64 k, .int .i64 q, .int .i64 t, .int .i64 m, .int .i64 r, .int .i64 s, .int .i64 v, .slice A2 n2 cc2] 32) g (by omega)).trans ((b2.block g (by omega)).trans R0)
      have B2 := (B0.trans (b2.mono (by omega))).alloc (show g ≤ w2.heap.size by omega) (.cells #[.int .i64 k, .int .i64 q, .int .i64 t, .int .i64 m, .int .i64 r, .int .i64 s, .int .i64 v, .slice A2 n2 cc2] 32)
      have P2 := heap_alloc_new w2 (.cells #[.int .i64 k, .int .i64 q, .int .i64 t, .int .i64 m, .int .i64 r, .int .i64 s, .int .i64 v, .slice A2 n2 cc2] 32)
      have y2 : w2.heap.size < (w2.alloc (.cells #[.int .i64 k, .int .i64 q, .int .i64 t, .int .i64 m, .int .i64 r, .int .i64 s, .int .i64 v, .slice A2 n2 cc2] 32)).heap.size := by simp
      generalize w2.alloc _ = Y2 at *
      have n1 : w2.heap.size ≠ g := by omega
      generalize w2.heap.size = g2 at *
      obtain ⟨c0, c1, c2', c3, c4, c5, c6, c7⟩ := fr_cells R2
      obtain ⟨f0, f1, f2, f3, f4, f5, f6, f7⟩ := fr_frozen R2
      obtain ⟨d0, d1, d2, d3, d4, d5, d6, d7⟩ := fr_cells P2
      go_wp2_with fail
      all_goals
        have RR := eight_heap (v0 := .int .i64 0) (v1 := .int .i64 0) (v2 := .int .i64 0) (v3 := .int .i64 0) (v4 := .int .i64 0) (v5 := .int .i64 0) (v6 := .int .i64 0) (v7 := .slice none 0 0) R2
        have BB := below_eight (v0 := .int .i64 0) (v1 := .int .i64 0) (v2 := .int .i64 0) (v3 := .int .i64 0) (v4 := .int .i64 0) (v5 := .int .i64 0) (v6 := .int .i64 0) (v7 := .slice none 0 0) B2 (Nat.le_refl g)
        clear c0 c1 c2' c3 c4 c5 c6 c7 f0 f1 f2 f3 f4 f5 f6 f7 R2 B2
        revert RR BB
        generalize World.setCell _ _ _ = Y9
        intro RR BB
        obtain ⟨e0, e1, e2, e3, e4, e5, e6, e7⟩ := fr_cells RR
        go_wp2
        exact bodyPost_ret (v := .tuple #[.agg #[.int .i64 0, .int .i64 0, .int .i64 0, .int .i64 0, .int .i64 0, .int .i64 0, .int .i64 0, .slice none 0 0], .int .i64 6]) (by simp [results, Try.results25, go_sem, e0, e1, e2, e3, e4, e5, e6, e7]) rfl ⟨_, rfl, IOwn.nil _ _, BB⟩
    · have hC : ffC xs = 0 := by simp [ffC, hb, hf]
      have hV : ∀ v, ffV xs v = v := fun v => by simp [ffV, hC]
      rw [hC, hV, hV, hV, hV, hV, hV, hV, if_pos rfl]
      have HS := Lib.hid (fun W hI hB' => hS W hI hB' hb)
      have HF := Lib.hid hf
      clear hC hV hb hf hS
      go_enter Try.func25, Try.ntmps25
      go_upto_region 1 with fail
      generalize World.alloc _ _ = W at *
      have zW := Below.lt_of' R0
      go_upto_region 4 with (first
        | (go_at_call 58; refine CB.mono ?_; rintro e w' ⟨rfl, rfl⟩)
        | (go_at_call 59; refine (HS.out _ I0 (by omega)).mono ?_; rintro e w2 ⟨k, q, t, m, r, s, v, A2, n2, cc2, rfl, hok, b2⟩; obtain ⟨rfl, rfl, rfl, rfl, rfl, rfl, rfl, o2⟩ := hok HF.out; rw [HF.out]))
      have z2 := b2.size
      have R2 := (Below.heap_alloc w2 (.cells #[.int .i64 (hdK xs), .int .i64 (hdQ xs), .int .i64 (stF xs 0 16), .int .i64 (stF xs 16 4), .int .i64 (stF xs 20 4), .int .i64 (stF xs 24 8), .int .i64 (stF xs 32 32), .slice A2 n2 cc2] 32) g (by omega)).trans ((b2.block g (by omega)).trans R0)
      have B2 := (B0.trans (b2.mono (by omega))).alloc (show g ≤ w2.heap.size by omega) (.cells #[.int .i64 (hdK xs), .int .i64 (hdQ xs), .int .i64 (stF xs 0 16), .int .i64 (stF xs 16 4), .int .i64 (stF xs 20 4), .int .i64 (stF xs 24 8), .int .i64 (stF xs 32 32), .slice A2 n2 cc2] 32)
      have P2 := heap_alloc_new w2 (.cells #[.int .i64 (hdK xs), .int .i64 (hdQ xs), .int .i64 (stF xs 0 16), .int .i64 (stF xs 16 4), .int .i64 (stF xs 20 4), .int .i64 (stF xs 24 8), .int .i64 (stF xs 32 32), .slice A2 n2 cc2] 32)
      have y2 : w2.heap.size < (w2.alloc (.cells #[.int .i64 (hdK xs), .int .i64 (hdQ xs), .int .i64 (stF xs 0 16), .int .i64 (stF xs 16 4), .int .i64 (stF xs 20 4), .int .i64 (stF xs 24 8), .int .i64 (stF xs 32 32), .slice A2 n2 cc2] 32)).heap.size := by simp
      have O2 := o2.alloc (.cells #[.int .i64 (hdK xs), .int .i64 (hdQ xs), .int .i64 (stF xs 0 16), .int .i64 (stF xs 16 4), .int .i64 (stF xs 20 4), .int .i64 (stF xs 24 8), .int .i64 (stF xs 32 32), .slice A2 n2 cc2] 32)
      generalize w2.alloc _ = Y2 at *
      have n1 : w2.heap.size ≠ g := by omega
      generalize w2.heap.size = g2 at *
      obtain ⟨c0, c1, c2', c3, c4, c5, c6, c7⟩ := fr_cells R2
      obtain ⟨f0, f1, f2, f3, f4, f5, f6, f7⟩ := fr_frozen R2
      obtain ⟨d0, d1, d2, d3, d4, d5, d6, d7⟩ := fr_cells P2
      go_wp2_with fail
      all_goals
        have RR := eight_heap (v0 := .int .i64 (hdK xs)) (v1 := .int .i64 (hdQ xs)) (v2 := .int .i64 (stF xs 0 16)) (v3 := .int .i64 (stF xs 16 4)) (v4 := .int .i64 (stF xs 20 4)) (v5 := .int .i64 (stF xs 24 8)) (v6 := .int .i64 (stF xs 32 32)) (v7 := .slice A2 n2 cc2) R2
        have BB := below_eight (v0 := .int .i64 (hdK xs)) (v1 := .int .i64 (hdQ xs)) (v2 := .int .i64 (stF xs 0 16)) (v3 := .int .i64 (stF xs 16 4)) (v4 := .int .i64 (stF xs 20 4)) (v5 := .int .i64 (stF xs 24 8)) (v6 := .int .i64 (stF xs 32 32)) (v7 := .slice A2 n2 cc2) B2 (Nat.le_refl g)
        have OO := O2.eight (g := g) (by omega) (.int .i64 (hdK xs)) (.int .i64 (hdQ xs)) (.int .i64 (stF xs 0 16)) (.int .i64 (stF xs 16 4)) (.int .i64 (stF xs 20 4)) (.int .i64 (stF xs 24 8)) (.int .i64 (stF xs 32 32)) (.slice A2 n2 cc2)
        clear c0 c1 c2' c3 c4 c5 c6 c7 f0 f1 f2 f3 f4 f5 f6 f7 R2 B2
        revert RR BB OO
        generalize World.setCell _ _ _ = Y9
        intro RR BB OO
        obtain ⟨e0, e1, e2, e3, e4, e5, e6, e7⟩ := fr_cells RR
        go_wp2
        exact bodyPost_ret (v := .tuple #[.agg #[.int .i64 (hdK xs), .int .i64 (hdQ xs), .int .i64 (stF xs 0 16), .int .i64 (stF xs 16 4), .int .i64 (stF xs 20 4), .int .i64 (stF xs 24 8), .int .i64 (stF xs 32 32), .slice A2 n2 cc2], .int .i64 0]) (by simp [results, Try.results25, go_sem, e0, e1, e2, e3, e4, e5, e6, e7]) rfl ⟨_, rfl, OO.less (by omega), BB⟩
end Go.Proofs.Ytpcdachkmekjgaa

/- Contracts of OpenFrame and IsOpenable, whole. -/
import Derived.Test.YtpcdachkmekjgaaOFE
import Derived.Test.YtpcdachkmekjgaaOFY
import Derived.BigRegion
namespace Go.Proofs.Ytpcdachkmekjgaa
open Go.RowKit
set_option linter.unusedSimpArgs false
set_option linter.unusedVariables false
set_option maxHeartbeats 2000000 in
theorem s_of_inner (A : Option Addr) (n c : Nat) (xs ys : List Int) (id T M R S V C : Int) (B : Nat) (w : World) (h : IntsAt w B A n c xs) (hB : B ≤ w.heap.size) (hs : stOk T M R S V = true) (hi : idOk id = true) (hb : bytesOk xs = true)
    (hin : ∀ W : World, IntsAt W B A n c xs → B ≤ W.heap.size → Calls Try.prog 68 #[.slice A n c, .int .i64 id, .agg #[.int .i64 T, .int .i64 M, .int .i64 R, .int .i64 S, .int .i64 V]] W (OFQ W C ys)) :
    Calls Try.prog 34 #[.slice A n c, .int .i64 id, .agg #[.int .i64 T, .int .i64 M, .int .i64 R, .int .i64 S, .int .i64 V]] w (OFQ w C ys) := by
  obtain ⟨R0, R1⟩ := alloc2 w (.cells #[.int .i64 T, .int .i64 M, .int .i64 R, .int .i64 S, .int .i64 V] 30) (.cells #[.int .i64 0, .int .i64 0, .int .i64 0, .int .i64 0, .int .i64 0, .int .i64 0, .int .i64 0, .slice none 0 0] 32)
  have B0 := ((Below.refl w.heap.size w).alloc (Nat.le_refl _) (.cells #[.int .i64 T, .int .i64 M, .int .i64 R, .int .i64 S, .int .i64 V] 30)).alloc (by simp) (.cells #[.int .i64 0, .int .i64 0, .int .i64 0, .int .i64 0, .int .i64 0, .int .i64 0, .int .i64 0, .slice none 0 0] 32)
  have I0 := (h.alloc hB (.cells #[.int .i64 T, .int .i64 M, .int .i64 R, .int .i64 S, .int .i64 V] 30)).alloc (by simp; omega) (.cells #[.int .i64 0, .int .i64 0, .int .i64 0, .int .i64 0, .int .i64 0, .int .i64 0, .int .i64 0, .slice none 0 0] 32)
  have HST := Lib.hid (fun W' => s_IsState T M R S V W')
  have HID := Lib.hid (fun W' => s_isId id W')
  have HBY := Lib.hid (fun W' I => s_IsBytes A n c xs B W' I)
  rw [hs] at HST
  rw [hi] at HID
  rw [hb] at HBY
  have HIN := Lib.hid hin
  clear h hs hi hb hin
  go_enter Try.func34, Try.ntmps34
  go_upto_region 1 with fail
  generalize hg : w.heap.size = g at *
  generalize World.alloc _ _ = W at *
  have zW := Below.lt_of' R1
  have zgr : g ≤ g + 1 := by omega
  obtain ⟨s0, s1, s2, s3, s4⟩ := cells5 R0
  go_wp2_with (first
    | (go_at_call 66; refine (HST.out _).mono ?_; rintro e W1 ⟨rfl, b1⟩; have z1 := b1.size; have R11 := (b1.block (g + 1) (by omega)).trans R1; have R01 := (b1.block g (by omega)).trans R0; have B1 := B0.trans (b1.mono (by omega)); have I1 := I0.below' (by omega) b1; obtain ⟨s0, s1, s2, s3, s4⟩ := cells5 R01)
    | (go_at_call 67; refine (HID.out _).mono ?_; rintro e w' ⟨rfl, rfl⟩)
    | (go_at_call 56; refine (HBY.out _ I1).mono ?_; rintro e w' ⟨rfl, rfl⟩)
    | (go_at_call 68; refine (HIN.out _ I1 (by omega)).mono ?_; rintro e W2 ⟨sl, rfl, o2, b2⟩; generalize hL : (if C = 0 then hdD ys else []) = L at o2; have HLL := Lib.hid hL; clear hL; obtain ⟨A2, c2, rfl, -, -, -⟩ := o2.form; have z2 := b2.size; have R12 := (b2.block (g + 1) (by omega)).trans R11; have B2 := B1.trans (b2.mono (by omega)); obtain ⟨c0, c1, c2', c3, c4, c5, c6, c7⟩ := fr_cells R12; obtain ⟨f0, f1, f2, f3, f4, f5, f6, f7⟩ := fr_frozen R12))
  have RR := eight_heap (v0 := .int .i64 (ofV C (hdK ys))) (v1 := .int .i64 (ofV C (hdQ ys))) (v2 := .int .i64 (ofV C (stF ys 0 16))) (v3 := .int .i64 (ofV C (stF ys 16 4))) (v4 := .int .i64 (ofV C (stF ys 20 4))) (v5 := .int .i64 (ofV C (stF ys 24 8))) (v6 := .int .i64 (ofV C (stF ys 32 32))) (v7 := .slice A2 L.length c2) R12
  have BB := below_eight (v0 := .int .i64 (ofV C (hdK ys))) (v1 := .int .i64 (ofV C (hdQ ys))) (v2 := .int .i64 (ofV C (stF ys 0 16))) (v3 := .int .i64 (ofV C (stF ys 16 4))) (v4 := .int .i64 (ofV C (stF ys 20 4))) (v5 := .int .i64 (ofV C (stF ys 24 8))) (v6 := .int .i64 (ofV C (stF ys 32 32))) (v7 := .slice A2 L.length c2) B2 zgr
  have OO := o2.eight (g := g + 1) (by omega) (.int .i64 (ofV C (hdK ys))) (.int .i64 (ofV C (hdQ ys))) (.int .i64 (ofV C (stF ys 0 16))) (.int .i64 (ofV C (stF ys 16 4))) (.int .i64 (ofV C (stF ys 20 4))) (.int .i64 (ofV C (stF ys 24 8))) (.int .i64 (ofV C (stF ys 32 32))) (.slice A2 L.length c2)
  clear c0 c1 c2' c3 c4 c5 c6 c7 f0 f1 f2 f3 f4 f5 f6 f7 R12 B2 o2
  revert RR BB OO
  generalize World.setCell _ _ _ = Y9
  intro RR BB OO
  obtain ⟨e0, e1, e2, e3, e4, e5, e6, e7⟩ := fr_cells RR
  go_wp2
  exact bodyPost_ret (v := .tuple #[.agg #[.int .i64 (ofV C (hdK ys)), .int .i64 (ofV C (hdQ ys)), .int .i64 (ofV C (stF ys 0 16)), .int .i64 (ofV C (stF ys 16 4)), .int .i64 (ofV C (stF ys 20 4)), .int .i64 (ofV C (stF ys 24 8)), .int .i64 (ofV C (stF ys 32 32)), .slice A2 L.length c2], .int .i64 C]) (by simp [results, Try.results34, go_sem, e0, e1, e2, e3, e4, e5, e6, e7]) rfl ⟨_, rfl, (by rw [HLL.out, hg]; exact OO.less (by omega)), by rw [hg]; exact BB⟩
theorem ofC_main {xs : List Int} {id T M R S V : Int} {m : Nat} (hm : 1 ≤ m) (hl : xs.length = m + 3) (hs : stOk T M R S V = true) (hi : idOk id = true) (hb : bytesOk xs = true) :
    ofC xs id T M R S V = (if eqL (three (chkN (hdK xs) (xs.take m) id.toNat T M R S V)) (xs.drop m) then ofB (xs.take m) T M R S V else 7) := by
  have h4 : ¬ xs.length < 4 := by omega
  have h3 : xs.length - 3 = m := by omega
  simp only [ofC, hs, hi, hb, if_true, Bool.and_self, if_neg h4, h3]
theorem ofC_6 {xs : List Int} {id T M R S V : Int} (h4 : xs.length < 4) (hs : stOk T M R S V = true) (hi : idOk id = true) (hb : bytesOk xs = true) : ofC xs id T M R S V = 6 := by
  simp only [ofC, hs, hi, hb, if_true, Bool.and_self, if_pos h4]
theorem i_OpenFrame (A : Option Addr) (n c : Nat) (xs : List Int) (id T M R S V : Int) (B : Nat) (w : World) (h : IntsAt w B A n c xs) (hB : B ≤ w.heap.size) :
    Calls Try.prog 35 #[.slice A n c, .int .i64 id, .agg #[.int .i64 T, .int .i64 M, .int .i64 R, .int .i64 S, .int .i64 V]] w (OFQ w (ofC xs id T M R S V) (xs.take (xs.length - 3))) := by
  have hl := h.len
  have hle := h.le
  cases hs : stOk T M R S V
  · rw [show ofC xs id T M R S V = 1 by simp [ofC, hs]]
    exact i_of_1 A n c xs _ id T M R S V B w h hB hs
  · cases hi : idOk id
    · rw [show ofC xs id T M R S V = 2 by simp [ofC, hs, hi]]
      exact i_of_2i A n c xs _ id T M R S V B w h hB hs hi
    · cases hb : bytesOk xs
      · rw [show ofC xs id T M R S V = 2 by simp [ofC, hs, hi, hb]]
        exact i_of_2b A n c xs _ id T M R S V B w h hB hs hi hb
      · by_cases h4 : n < 4
        · rw [ofC_6 (by omega) hs hi hb]
          exact i_of_6 A n c xs _ id T M R S V B w h hB hs hi hb h4
        · obtain ⟨ad, rfl, -, -⟩ := h.at_ 0 (by omega)
          obtain ⟨m, rfl⟩ : ∃ m, n = m + 3 := ⟨n - 3, by omega⟩
          obtain ⟨c', rfl⟩ : ∃ c', c = c' + 3 := ⟨c - 3, by omega⟩
          rw [ofC_main (by omega) hl hs hi hb, show xs.length - 3 = m by omega]
          exact i_of_main ad m c' xs id T M R S V B w h hB (by omega) hs hi hb
theorem s_OpenFrame (A : Option Addr) (n c : Nat) (xs : List Int) (id T M R S V : Int) (B : Nat) (w : World) (h : IntsAt w B A n c xs) (hB : B ≤ w.heap.size) :
    Calls Try.prog 34 #[.slice A n c, .int .i64 id, .agg #[.int .i64 T, .int .i64 M, .int .i64 R, .int .i64 S, .int .i64 V]] w (OFQ w (ofC xs id T M R S V) (xs.take (xs.length - 3))) := by
  have hl := h.len
  have hle := h.le
  cases hs : stOk T M R S V
  · rw [show ofC xs id T M R S V = 1 by simp [ofC, hs]]
    exact s_of_1 A n c xs _ id T M R S V B w h hB hs
  · cases hi : idOk id
    · rw [show ofC xs id T M R S V = 2 by simp [ofC, hs, hi]]
      exact s_of_2i A n c xs _ id T M R S V B w h hB hs hi
    · cases hb : bytesOk xs
      · rw [show ofC xs id T M R S V = 2 by simp [ofC, hs, hi, hb]]
        exact s_of_2b A n c xs _ id T M R S V B w h hB hs hi hb
      · by_cases h4 : n < 4
        · rw [ofC_6 (by omega) hs hi hb]
          exact s_of_inner A n c xs _ id T M R S V 6 B w h hB hs hi hb (fun W _ _ => s_l07_short A n c _ id T M R S V W h4)
        · obtain ⟨ad, rfl, -, -⟩ := h.at_ 0 (by omega)
          obtain ⟨m, rfl⟩ : ∃ m, n = m + 3 := ⟨n - 3, by omega⟩
          obtain ⟨c', rfl⟩ : ∃ c', c = c' + 3 := ⟨c - 3, by omega⟩
          rw [ofC_main (by omega) hl hs hi hb, show xs.length - 3 = m by omega]
          exact s_of_inner (some ad) (m + 3) (c' + 3) xs _ id T M R S V _ B w h hB hs hi hb (fun W I hW => s_of_main ad m c' xs id T M R S V B W I hW (by omega) hs hi hb)
set_option maxHeartbeats 1000000 in
theorem i_IsOpenable (A : Option Addr) (n c : Nat) (xs : List Int) (id T M R S V : Int) (B : Nat) (w : World) (h : IntsAt w B A n c xs) (hB : B ≤ w.heap.size) :
    Calls Try.prog 33 #[.slice A n c, .int .i64 id, .agg #[.int .i64 T, .int .i64 M, .int .i64 R, .int .i64 S, .int .i64 V]] w fun e w' => e = .returned (.bool (ofC xs id T M R S V == 0)) ∧ Below w.heap.size w w' := by
  have I0 := h.alloc hB (.cells #[.int .i64 T, .int .i64 M, .int .i64 R, .int .i64 S, .int .i64 V] 30)
  have B0 := (Below.refl w.heap.size w).alloc (Nat.le_refl _) (.cells #[.int .i64 T, .int .i64 M, .int .i64 R, .int .i64 S, .int .i64 V] 30)
  have z0 : w.heap.size ≤ (w.alloc (.cells #[.int .i64 T, .int .i64 M, .int .i64 R, .int .i64 S, .int .i64 V] 30)).heap.size := by simp
  have HO := Lib.hid (fun W I hW => i_OpenFrame A n c xs id T M R S V B W I hW)
  clear h
  go_enter Try.func33, Try.ntmps33
  go_wp2_with (first | (go_at_call 35; refine (HO.out _ I0 (by omega)).mono ?_; rintro e W2 ⟨sl, rfl, o2, b2⟩; generalize ite (_ = (0 : Int)) _ _ = L at o2; obtain ⟨A2, c2, rfl, -, -, -⟩ := o2.form; have B2 := (B0.trans (b2.mono z0)).alloc (Nat.le_trans z0 b2.size)))
  go_ret
  exact ⟨rfl, B2 _⟩
set_option maxHeartbeats 1000000 in
theorem s_IsOpenable (A : Option Addr) (n c : Nat) (xs : List Int) (id T M R S V : Int) (B : Nat) (w : World) (h : IntsAt w B A n c xs) (hB : B ≤ w.heap.size) :
    Calls Try.prog 32 #[.slice A n c, .int .i64 id, .agg #[.int .i64 T, .int .i64 M, .int .i64 R, .int .i64 S, .int .i64 V]] w fun e w' => e = .returned (.bool (ofC xs id T M R S V == 0)) ∧ Below w.heap.size w w' := by
  have I0 := h.alloc hB (.cells #[.int .i64 T, .int .i64 M, .int .i64 R, .int .i64 S, .int .i64 V] 30)
  have B0 := (Below.refl w.heap.size w).alloc (Nat.le_refl _) (.cells #[.int .i64 T, .int .i64 M, .int .i64 R, .int .i64 S, .int .i64 V] 30)
  have z0 : w.heap.size ≤ (w.alloc (.cells #[.int .i64 T, .int .i64 M, .int .i64 R, .int .i64 S, .int .i64 V] 30)).heap.size := by simp
  have HO := Lib.hid (fun W I hW => s_OpenFrame A n c xs id T M R S V B W I hW)
  clear h
  go_enter Try.func32, Try.ntmps32
  go_wp2_with (first | (go_at_call 34; refine (HO.out _ I0 (by omega)).mono ?_; rintro e W2 ⟨sl, rfl, o2, b2⟩; generalize ite (_ = (0 : Int)) _ _ = L at o2; obtain ⟨A2, c2, rfl, -, -, -⟩ := o2.form; have B2 := (B0.trans (b2.mono z0)).alloc (Nat.le_trans z0 b2.size)))
  go_ret
  exact ⟨rfl, B2 _⟩
end Go.Proofs.Ytpcdachkmekjgaa

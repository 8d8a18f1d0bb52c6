/- Helpers of the laws on frames. -/
import Derived.Test.YtpcdachkmekjgaaDrawF2x
import Derived.Test.YtpcdachkmekjgaaFBody
import Derived.Test.YtpcdachkmekjgaaBody
import Derived.Test.YtpcdachkmekjgaaDesc
import Derived.Test.YtpcdachkmekjgaaFFN
namespace Go.Proofs.Ytpcdachkmekjgaa
open Go.RowKit
set_option linter.unusedSimpArgs false
set_option linter.unusedVariables false
theorem h_big (A : Option Addr) (n c : Nat) (w : World) :
    Calls Try.prog 36 #[.slice A n c] w fun e w' => e = .returned (.bool (decide ((4096 : Int) < n))) ∧ w = w' := by
  go_enter Try.func36, Try.ntmps36
  go_wp2
  go_ret
  exact ⟨rfl, rfl⟩
theorem h_likeFrames (k q t m r s v : Int) (A A' : Option Addr) (n c n' c' : Nat) (xs : List Int) (B B' : Nat) (w : World) (h : IntsAt w B A n c xs) (h' : IntsAt w B' A' n' c' xs) (hB : B ≤ w.heap.size) (hB' : B' ≤ w.heap.size) :
    Calls Try.prog 43 #[.agg #[.int .i64 k, .int .i64 q, .int .i64 t, .int .i64 m, .int .i64 r, .int .i64 s, .int .i64 v, .slice A n c], .agg #[.int .i64 k, .int .i64 q, .int .i64 t, .int .i64 m, .int .i64 r, .int .i64 s, .int .i64 v, .slice A' n' c']] w fun e w' => e = .returned (.bool true) ∧ Below w.heap.size w w' := by
  have he := eqL_refl xs
  have i1 := (h.alloc hB (.cells #[.int .i64 k, .int .i64 q, .int .i64 t, .int .i64 m, .int .i64 r, .int .i64 s, .int .i64 v, .slice A n c] 32)).alloc (by simp; omega) (.cells #[.int .i64 k, .int .i64 q, .int .i64 t, .int .i64 m, .int .i64 r, .int .i64 s, .int .i64 v, .slice A' n' c'] 32)
  have i2 := (h'.alloc hB' (.cells #[.int .i64 k, .int .i64 q, .int .i64 t, .int .i64 m, .int .i64 r, .int .i64 s, .int .i64 v, .slice A n c] 32)).alloc (by simp; omega) (.cells #[.int .i64 k, .int .i64 q, .int .i64 t, .int .i64 m, .int .i64 r, .int .i64 s, .int .i64 v, .slice A' n' c'] 32)
  go_enter Try.func43, Try.ntmps43
  go_wp2_with fail
  refine (h_likeInts _ _ _ _ _ _ _ _ _ _ _ i1 i2).mono ?_
  rintro e w2 ⟨rfl, m2, rfl⟩
  go_wp2
  go_ret
  exact ⟨rfl, below_drewN (((Below.refl _ _).alloc (Nat.le_refl _) _).alloc (by simp) _) _⟩
def khV (h : Int) : Int := if 0 ≤ h ∧ h ≤ 255 then h / 64 else 0
def khC (h : Int) : Int := if 0 ≤ h ∧ h ≤ 255 then 0 else 2
theorem i_KindOfHead (h : Int) (w : World) : Calls Try.prog 42 #[.int .i64 h] w fun e w' => e = .returned (.tuple #[.int .i64 (khV h), .int .i64 (khC h)]) ∧ w = w' := by
  rcases (show h < 0 ∨ 255 < h ∨ (0 ≤ h ∧ h ≤ 255) by omega) with h1 | h1 | ⟨h1, h2⟩
  · rw [show khV h = 0 by unfold khV; rw [if_neg (by omega)], show khC h = 2 by unfold khC; rw [if_neg (by omega)]]
    go_enter Try.func42, Try.ntmps42
    go_wp2_with (go_at_call 77; first | (refine (i_within_yes _ _ _ _ ?_ ?_).mono ?_; omega; omega; rintro e w' ⟨rfl, rfl⟩) | (refine (i_within_no _ _ _ _ ?_).mono ?_; omega; rintro e w' ⟨rfl, rfl⟩))
    go_ret2
    exact ⟨rfl, rfl⟩
  · rw [show khV h = 0 by unfold khV; rw [if_neg (by omega)], show khC h = 2 by unfold khC; rw [if_neg (by omega)]]
    go_enter Try.func42, Try.ntmps42
    go_wp2_with (go_at_call 77; first | (refine (i_within_yes _ _ _ _ ?_ ?_).mono ?_; omega; omega; rintro e w' ⟨rfl, rfl⟩) | (refine (i_within_no _ _ _ _ ?_).mono ?_; omega; rintro e w' ⟨rfl, rfl⟩))
    go_ret2
    exact ⟨rfl, rfl⟩
  · rw [show khV h = h / 64 by unfold khV; rw [if_pos (by omega)], show khC h = 0 by unfold khC; rw [if_pos (by omega)]]
    go_enter Try.func42, Try.ntmps42
    go_wp2_with (go_at_call 77; first | (refine (i_within_yes _ _ _ _ ?_ ?_).mono ?_; omega; omega; rintro e w' ⟨rfl, rfl⟩) | (refine (i_within_no _ _ _ _ ?_).mono ?_; omega; rintro e w' ⟨rfl, rfl⟩))
    go_ret2
    exact ⟨rfl, rfl⟩
theorem s_DrawFrameBody (A : Option Addr) (n c : Nat) (bs : List Int) (B : Nat) (w : World) (h : BytesAt w B A n c bs) (hB : B ≤ w.heap.size) :
    Calls Try.prog 37 #[.slice A n c] w fun e w' => ∃ (k q t m r s v : Int) (vs : Value) (xs : List Int), e = .returned (.agg #[.int .i64 k, .int .i64 q, .int .i64 t, .int .i64 m, .int .i64 r, .int .i64 s, .int .i64 v, vs]) ∧ xs.length ≤ 10000 ∧ IOwn w' w.heap.size vs xs ∧ Below w.heap.size w w' := by
  have R0 := heap_alloc_new w (.cells #[.int .i64 0, .int .i64 0, .int .i64 0, .int .i64 0, .int .i64 0, .int .i64 0, .int .i64 0, .slice none 0 0] 32)
  have B0 := (Below.refl w.heap.size w).alloc (Nat.le_refl _) (.cells #[.int .i64 0, .int .i64 0, .int .i64 0, .int .i64 0, .int .i64 0, .int .i64 0, .int .i64 0, .slice none 0 0] 32)
  have h0 := h.below' hB B0
  have z0 := Below.ltK R0
  go_enter Try.func37, Try.ntmps37
  go_wp2_with fail
  generalize hg : w.heap.size = g0 at *
  generalize w.alloc _ = W0 at *
  refine (s_l01From _ _ _ _ B _ h0 (by omega)).mono ?_
  rintro e w1 ⟨g, rfl, S1, hgl, hb⟩
  have R1 := (hb.block g0 (by omega)).trans R0
  have B1 := B0.trans (hb.mono (by omega))
  have z1 := hb.size
  clear R0 B0 h0 h
  go_wp2_with fail
  refine (s_l06DrawAny g B _ S1).mono ?_
  rintro e w2 ⟨k, q, t, m, r, s, v, vs, xs, rfl, hx, ho, S2, gg⟩
  obtain ⟨A2, c2, rfl, -, -, -⟩ := ho.form
  have R2 := zkeep R1 gg (by omega)
  have B2 := B1.trans (grown_below gg (by omega) (fun q hq => by injection hq with hq; omega))
  clear R1 B1 S1 S2 gg hb
  obtain ⟨c0, c1, c2', c3, c4, c5, c6, c7⟩ := fr_cells R2
  obtain ⟨f0, f1, f2, f3, f4, f5, f6, f7⟩ := fr_frozen R2
  have RR := Lib.hid (eight_heap (v0 := .int .i64 k) (v1 := .int .i64 q) (v2 := .int .i64 t) (v3 := .int .i64 m) (v4 := .int .i64 r) (v5 := .int .i64 s) (v6 := .int .i64 v) (v7 := .slice A2 xs.length c2) R2)
  have BB := Lib.hid (below_eight (v0 := .int .i64 k) (v1 := .int .i64 q) (v2 := .int .i64 t) (v3 := .int .i64 m) (v4 := .int .i64 r) (v5 := .int .i64 s) (v6 := .int .i64 v) (v7 := .slice A2 xs.length c2) B2 (Nat.le_refl _))
  have OO := Lib.hid (ho.eight (g := g0) (by omega) (.int .i64 k) (.int .i64 q) (.int .i64 t) (.int .i64 m) (.int .i64 r) (.int .i64 s) (.int .i64 v) (.slice A2 xs.length c2))
  clear R2 B2 ho
  go_wp2
  have R := RR.out; have B3 := BB.out; have O := OO.out
  clear RR BB OO c0 c1 c2' c3 c4 c5 c6 c7 f0 f1 f2 f3 f4 f5 f6 f7
  revert R B3 O
  generalize World.setCell _ _ _ = WF
  intro R B3 O
  obtain ⟨e0, e1, e2, e3, e4, e5, e6, e7⟩ := fr_cells R
  exact bodyPost_ret (v := .agg #[.int .i64 k, .int .i64 q, .int .i64 t, .int .i64 m, .int .i64 r, .int .i64 s, .int .i64 v, .slice A2 xs.length c2]) (by simp [results, Try.results37, go_sem, e0, e1, e2, e3, e4, e5, e6, e7]) rfl ⟨_, _, _, _, _, _, _, _, _, rfl, hx, (by rw [hg]; exact O.less (by omega)), by rw [hg]; exact B3⟩
theorem bodyL_ok {k q t m r s v : Int} {xs : List Int} (h : frOk k q t m r s v xs = true) :
    ffC (bodyL k q t m r s v xs) = 0 ∧ bodyV k (xs.length : Int) = ((bodyL k q t m r s v xs).length : Int) ∧ bodyC k (xs.length : Int) = 0 ∧
    khC ((bodyL k q t m r s v xs).getD 0 0) = 0 ∧ khV ((bodyL k q t m r s v xs).getD 0 0) = k ∧ (bodyL k q t m r s v xs).length ≤ 1000 ∧ 0 < (bodyL k q t m r s v xs).length := by
  obtain ⟨hk, hq, hz, hb, hs, h0⟩ := fr_st h
  have hl := bodyL_len k q t m r s v xs
  have hzb := sizeOk_bd hz
  have hm := bodyL_mem k q t m r s v xs h
  have hlb : (bodyL k q t m r s v xs).length ≤ 1000 := by
    rw [hl]; split <;> split <;> omega
  have h00 : (bodyL k q t m r s v xs).getD 0 0 = k * 64 + q * 8 := rfl
  have hbk : bytesOk (bodyL k q t m r s v xs) = true := by
    simp only [bytesOk, Bool.and_eq_true, decide_eq_true_eq]
    exact ⟨by omega, (allIn_iff _ 0 255).2 fun i hi => by
      rw [List.getD_eq_getElem?_getD, List.getElem?_eq_getElem hi]
      exact hm _ (List.getElem_mem hi)⟩
  have hc : bodyC k (xs.length : Int) = 0 := by simp [bodyC, hk, hz]
  refine ⟨by simp [ffC, hbk, fbOk_body h], ?_, hc, ?_, ?_, hlb, by rw [hl]; omega⟩
  · rw [show bodyV k (xs.length : Int) = bodyZ k xs.length by simp [bodyV, hc], hl]
    unfold bodyZ
    by_cases k0 : k = 0
    · simp [k0] <;> omega
    · by_cases k2 : k = 2
      · simp [k2] <;> omega
      · simp [k0, k2] <;> omega
  · rw [h00]; unfold khC; rw [if_pos (by omega)]
  · rw [h00]; unfold khV; rw [if_pos (by omega)]; omega
end Go.Proofs.Ytpcdachkmekjgaa

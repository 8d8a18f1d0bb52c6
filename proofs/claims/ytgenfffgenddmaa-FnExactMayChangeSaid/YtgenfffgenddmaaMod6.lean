/- MayChange, both texts, and the walk of its law. -/
import Derived.Test.YtgenfffgenddmaaMod5
namespace Go.Proofs.Ytgenfffgenddmaa
open Go.RowKit
set_option linter.unusedSimpArgs false
set_option linter.unusedVariables false
/-- The code for a table and a mode. -/
def mcC (ok : Bool) (n : Nat) (f : Int) : Int := if ok = true then (if 0 ≤ f ∧ f ≤ (n : Int) - 1 then 0 else 2) else 1
def mcHas (M : List Md) (f y : Int) : Bool := match M[f.toNat]? with | some d => hasK d.xs y d.xs.length | none => false
def mcOk (M : List Md) (f y : Int) : Bool := mtOk M && decide (0 ≤ f ∧ f ≤ (M.length : Int) - 1) && mcHas M f y
theorem mc_no {M : List Md} {f y : Int} (h : mtOk M = false) : mcOk M f y = false := by simp [mcOk, h]
theorem mc_out {M : List Md} {f y : Int} (h : ¬ (0 ≤ f ∧ f ≤ (M.length : Int) - 1)) : mcOk M f y = false := by simp [mcOk, h]
theorem mc_in {M : List Md} {k : Nat} {d : Md} {y : Int} (h : mtOk M = true) (hd : M[k]? = some d) : mcOk M k y = hasK d.xs y d.xs.length := by
  have hk := (List.getElem?_eq_some_iff.1 hd).1
  have : decide ((0 : Int) ≤ (k : Int) ∧ (k : Int) ≤ (M.length : Int) - 1) = true := by simp only [decide_eq_true_eq]; omega
  have e : mcHas M k y = hasK d.xs y d.xs.length := by simp [mcHas, hd]
  unfold mcOk
  rw [h, this, e]
  rfl
theorem allIn_one (x lo hi : Int) : allIn [x] lo hi = decide (lo ≤ x ∧ x ≤ hi) := by simp [allIn]
theorem i_modesCode (A : Option Addr) (n c : Nat) (M : List Md) (B : Nat) (A' : Option Addr) (c' : Nat) (f : Int) (B' : Nat) (w : World) (h : ModesAt w B A n c M) (hB : B ≤ w.heap.size) (h' : IntsAt w B' A' 1 c' [f]) (hB' : B' ≤ w.heap.size) :
    Calls Try.prog 22 #[.slice A n c, .slice A' 1 c'] w fun e w' => e = .returned (.int .i64 (mcC (mtOk M) n f)) ∧ Below w.heap.size w w' := by
  have hn := h.2.2.1
  have hT := Lib.hid (i_IsModeTable A n c M B w h hB)
  have hA := Lib.hid (fun (w1 : World) (b : Below w.heap.size w w1) => i_allWithin A' 1 c' [f] 0 ((n : Int) - 1) B' w1 (h'.below' hB' b))
  rw [allIn_one] at hA
  clear h h'
  cases hm : mtOk M
  · rw [hm] at hT
    have hF := Lib.hid (show mcC false n f = 1 from rfl)
    clear hm
    go_enter Try.func22, Try.ntmps22
    go_wp2_with fail
    refine hT.out.mono ?_
    rintro e w1 ⟨rfl, b1⟩
    go_wp2
    go_ret
    exact ⟨by rw [hF.out]; rfl, b1⟩
  · rw [hm] at hT
    clear hm
    have hw : IntKind.i64.wrap ((n : Int) - 1) = (n : Int) - 1 := IntWalk.i64_in _ (by omega)
    by_cases hf : 0 ≤ f ∧ f ≤ (n : Int) - 1
    · rw [decide_eq_true hf] at hA
      have hF := Lib.hid (show mcC true n f = 0 by unfold mcC; rw [if_pos rfl, if_pos hf])
      clear hf
      go_enter Try.func22, Try.ntmps22
      go_wp2_with fail
      refine hT.out.mono ?_
      rintro e w1 ⟨rfl, b1⟩
      go_wp2_with fail
      refine (hA.out w1 b1).mono ?_
      rintro e w2 ⟨rfl, rfl⟩
      go_wp2
      go_ret
      exact ⟨by rw [hF.out]; rfl, b1⟩
    · rw [decide_eq_false hf] at hA
      have hF := Lib.hid (show mcC true n f = 2 by unfold mcC; rw [if_pos rfl, if_neg hf])
      clear hf
      go_enter Try.func22, Try.ntmps22
      go_wp2_with fail
      refine hT.out.mono ?_
      rintro e w1 ⟨rfl, b1⟩
      go_wp2_with fail
      refine (hA.out w1 b1).mono ?_
      rintro e w2 ⟨rfl, rfl⟩
      go_wp2
      go_ret
      exact ⟨by rw [hF.out]; rfl, b1⟩
set_option maxHeartbeats 1000000 in
theorem i_MayChange (A : Option Addr) (n c : Nat) (M : List Md) (f y : Int) (B : Nat) (w : World) (h : ModesAt w B A n c M) (hB : B ≤ w.heap.size) :
    Calls Try.prog 11 #[.slice A n c, .int .i64 f, .int .i64 y] w fun e w' => e = .returned (.bool (mcOk M f y)) ∧ Below w.heap.size w w' := by
  have hn := h.2.2.1
  have hl := h.1
  have b0 := (Below.refl w.heap.size w).alloc (Nat.le_refl _) (.cells #[.int .i64 f] 2)
  have hT := Lib.hid (i_modesCode A n c M B (some ⟨w.heap.size, 0, none⟩) 1 f (w.heap.size + 1) _ (h.below' hB b0) (by simp; omega) (lit_ints w [f] 2 (by simp)) (by simp))
  by_cases hm : mtOk M = true
  · by_cases hf : 0 ≤ f ∧ f ≤ (n : Int) - 1
    · rw [show mcC (mtOk M) n f = 0 by unfold mcC; rw [if_pos hm, if_pos hf]] at hT
      obtain ⟨k, rfl⟩ := Int.eq_ofNat_of_zero_le hf.1
      have hk : k < n := by omega
      obtain ⟨ad, d, Ai, ci, rfl, hab, hd, cs, hI⟩ := h.at_ k hk
      have hV := Lib.hid (mc_in (y := y) hm hd)
      have hC := Lib.hid (fun (w1 : World) (b : Below w.heap.size w w1) => l_Contains Ai d.xs.length ci d.xs y B w1 (hI.below' hB b))
      have hcs := Lib.hid (fun (w1 : World) (b : Below w.heap.size w w1) => cs.keep (w' := w1) fun p hp => b.cell (by rw [hp]; omega))
      have k0 : (0 : Int) ≤ (k : Int) := by omega
      have k1 : (k : Int) < (n : Int) := by omega
      clear h hm hf hl hI cs hd
      generalize hasK d.xs y d.xs.length = ok at *
      go_enter Try.func11, Try.ntmps11
      go_wp2_with fail
      refine hT.out.mono ?_
      rintro e w1 ⟨rfl, b1⟩
      have B1 := b0.trans (b1.mono (by simp))
      obtain ⟨c0, c1, c2⟩ := hcs.out w1 B1
      clear b0 b1 hT hcs
      go_wp2_with fail
      refine (hC.out w1 B1).mono ?_
      rintro e w2 ⟨rfl, rfl⟩
      clear hC
      go_wp2
      go_ret
      exact ⟨by rw [hV.out]; rfl, B1⟩
    · rw [show mcC (mtOk M) n f = 2 by unfold mcC; rw [if_pos hm, if_neg hf]] at hT
      have hV := Lib.hid (mc_out (M := M) (f := f) (y := y) (by rw [hl]; exact hf))
      clear h hm hf hl
      go_enter Try.func11, Try.ntmps11
      go_wp2_with fail
      refine hT.out.mono ?_
      rintro e w1 ⟨rfl, b1⟩
      have B1 := b0.trans (b1.mono (by simp))
      clear b0 b1 hT
      go_wp2
      go_ret
      exact ⟨by rw [hV.out]; rfl, B1⟩
  · rw [show mcC (mtOk M) n f = 1 by unfold mcC; rw [if_neg hm]] at hT
    have hV := Lib.hid (mc_no (f := f) (y := y) (by simpa using hm))
    clear h hm hl
    go_enter Try.func11, Try.ntmps11
    go_wp2_with fail
    refine hT.out.mono ?_
    rintro e w1 ⟨rfl, b1⟩
    have B1 := b0.trans (b1.mono (by simp))
    clear b0 b1 hT
    go_wp2
    go_ret
    exact ⟨by rw [hV.out]; rfl, B1⟩
theorem s_l11Mode (A : Option Addr) (n c : Nat) (f : Int) (b : Bool) (hn : n ≤ 1048576) (hb : b = decide (0 ≤ f ∧ f ≤ (n : Int) - 1)) (w : World) :
    Calls Try.prog 21 #[.slice A n c, .int .i64 f] w fun e w' => e = .returned (.bool b) ∧ w = w' := by
  have hL := Lib.hid (fun W => s_l01In_b (a := f) (lo := 0) (hi := (n : Int) - 1) b hb W)
  have hw : IntKind.i64.wrap ((n : Int) - 1) = (n : Int) - 1 := IntWalk.i64_in _ (by omega)
  clear hb
  go_enter Try.func21, Try.ntmps21
  go_wp2_with (go_at_call 13; refine (hL.out _).mono ?_; rintro e w' ⟨rfl, rfl⟩)
  go_ret
  exact ⟨rfl, rfl⟩
set_option maxHeartbeats 1000000 in
theorem s_MayChange (A : Option Addr) (n c : Nat) (M : List Md) (f y : Int) (B : Nat) (w : World) (h : ModesAt w B A n c M) (hB : B ≤ w.heap.size) :
    Calls Try.prog 10 #[.slice A n c, .int .i64 f, .int .i64 y] w fun e w' => e = .returned (.bool (mcOk M f y)) ∧ Below w.heap.size w w' := by
  have hn := h.2.2.1
  have hl := h.1
  have hT := Lib.hid (s_IsModeTable A n c M B w h hB)
  cases hm : mtOk M
  · rw [hm] at hT
    have hV := Lib.hid (mc_no (f := f) (y := y) hm)
    clear h hm hl
    go_enter Try.func10, Try.ntmps10
    go_wp2_with fail
    refine hT.out.mono ?_
    rintro e w1 ⟨rfl, b1⟩
    clear hT
    go_wp2
    go_ret
    exact ⟨by rw [hV.out]; rfl, b1⟩
  · rw [hm] at hT
    by_cases hf : 0 ≤ f ∧ f ≤ (n : Int) - 1
    · have hL := Lib.hid (fun W => s_l11Mode A n c f true hn (by simp [hf]) W)
      obtain ⟨k, rfl⟩ := Int.eq_ofNat_of_zero_le hf.1
      have hk : k < n := by omega
      obtain ⟨ad, d, Ai, ci, rfl, hab, hd, cs, hI⟩ := h.at_ k hk
      have hV := Lib.hid (mc_in (y := y) hm hd)
      have hC := Lib.hid (fun (w1 : World) (b : Below w.heap.size w w1) => s_l01Has Ai d.xs.length ci d.xs y B w1 (hI.below' hB b))
      have hcs := Lib.hid (fun (w1 : World) (b : Below w.heap.size w w1) => cs.keep (w' := w1) fun p hp => b.cell (by rw [hp]; omega))
      have k0 : (0 : Int) ≤ (k : Int) := by omega
      have k1 : (k : Int) < (n : Int) := by omega
      clear h hm hf hl hI cs hd
      generalize hasK d.xs y d.xs.length = ok at *
      go_enter Try.func10, Try.ntmps10
      go_wp2_with fail
      refine hT.out.mono ?_
      rintro e w1 ⟨rfl, b1⟩
      obtain ⟨c0, c1, c2⟩ := hcs.out w1 b1
      clear hT hcs
      go_wp2_with fail
      refine (hL.out _).mono ?_
      rintro e w' ⟨rfl, rfl⟩
      go_wp2_with fail
      refine (hC.out w1 b1).mono ?_
      rintro e w2 ⟨rfl, rfl⟩
      clear hC
      go_wp2
      go_ret
      exact ⟨by rw [hV.out]; rfl, b1⟩
    · have hL := Lib.hid (fun W => s_l11Mode A n c f false hn (by simp [hf]) W)
      have hV := Lib.hid (mc_out (M := M) (f := f) (y := y) (by rw [hl]; exact hf))
      clear h hm hf hl
      go_enter Try.func10, Try.ntmps10
      go_wp2_with fail
      refine hT.out.mono ?_
      rintro e w1 ⟨rfl, b1⟩
      clear hT
      go_wp2_with fail
      refine (hL.out _).mono ?_
      rintro e w' ⟨rfl, rfl⟩
      go_wp2
      go_ret
      exact ⟨by rw [hV.out]; rfl, b1⟩
set_option maxHeartbeats 1000000 in
theorem w_FnExactMayChange (a0 : Option Addr) (len0 cap0 : Nat) (z0 : List Mp) (f y : Int) (w : World) (w0 : ArgModes w a0 len0 cap0 z0) (w1 : (Lit.int .i64 f).wf = true) (w2 : (Lit.int .i64 y).wf = true) :
    Calls Try.prog 4 #[.slice a0 len0 cap0, .int .i64 f, .int .i64 y] w fun e w' => e = .returned (.bool true) ∧ Below w.heap.size w w' := by
  have hS := Lib.hid (h_szModeInfoS a0 len0 cap0 z0 w w0)
  have hM := Lib.hid (fun h1 h2 => w0.modes h1 h2)
  clear w0 w1 w2
  generalize z0.map (·.m) = M at hM
  go_enter Try.func4, Try.ntmps4
  go_wp2_with fail
  refine hS.out.mono ?_
  rintro e w1 ⟨x, rfl, hx, b1⟩
  have HX := Lib.hid hx
  clear hx hS
  by_cases h0 : x < 0
  · go_wp2
    go_ret
    exact ⟨rfl, b1⟩
  · have hx0 : decide (x < 0) = false := by simpa using h0
    obtain ⟨q1, q2⟩ := HX.out (by omega)
    have H1 := (hM.out q1 q2).below' (Nat.le_refl _) b1
    have z1 := b1.size
    clear hM HX h0 q2
    go_wp2_with fail
    refine (h_toModeInfoS a0 len0 cap0 M _ w1 H1 z1).mono ?_
    rintro e w2 ⟨A2, rfl, M2, b2⟩
    have H2 := H1.below' z1 b2
    have B2 := b1.trans (b2.mono z1)
    have z2 := B2.size
    clear H1 b1 b2 z1
    go_wp2_with fail
    refine (s_MayChange _ _ _ M f y _ w2 M2 (Nat.le_refl _)).mono ?_
    rintro e w3 ⟨rfl, b3⟩
    have H3 := H2.below' z2 b3
    have B3 := B2.trans (b3.mono z2)
    have z3 := B3.size
    clear H2 B2 b3 M2 z2
    go_wp2_with fail
    refine (h_toModeInfoS a0 len0 cap0 M _ w3 H3 z3).mono ?_
    rintro e w4 ⟨A4, rfl, M4, b4⟩
    have H4 := H3.below' z3 b4
    have B4 := B3.trans (b4.mono z3)
    have z4 := B4.size
    clear H3 B3 b4 z3
    go_wp2_with fail
    refine (i_MayChange _ _ _ M f y _ w4 M4 (Nat.le_refl _)).mono ?_
    rintro e w5 ⟨rfl, b5⟩
    have H5 := H4.below' z4 b5
    have M5 := M4.below' (Nat.le_refl _) b5
    have B5 := B4.trans (b5.mono z4)
    have z5 := B5.size
    have y5 := b5.size
    clear H4 B4 b5 M4 z4
    generalize mcOk M f y = ok
    go_wp2_with fail
    refine (h_toModeInfoS a0 len0 cap0 M _ w5 H5 z5).mono ?_
    rintro e w6 ⟨A6, rfl, M6, b6⟩
    have M5' := M5.below' y5 b6
    have y6 := b6.size
    have B6 := B5.trans (b6.mono z5)
    clear H5 B5 b6 M5
    go_wp2_with fail
    refine (h_eqModeInfoS _ _ _ _ _ M _ _ w6 M5' M6 (by omega) (Nat.le_refl _)).mono ?_
    rintro e w7 ⟨rfl, b7⟩
    have B7 := B6.trans (b7.mono B6.size)
    clear B6 b7 M6 M5'
    go_wp2
    go_ret
    exact ⟨rfl, B7⟩
end Go.Proofs.Ytgenfffgenddmaa

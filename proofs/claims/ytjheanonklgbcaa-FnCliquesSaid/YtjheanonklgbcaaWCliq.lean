/- The walk of the law on cliques. -/
import Derived.Test.YtjheanonklgbcaaCliq
namespace Go.Proofs.Ytjheanonklgbcaa
open Go.RowKit
set_option linter.unusedSimpArgs false
set_option linter.unusedVariables false
theorem h_bigC (A : Option Addr) (n c : Nat) (w : World) :
    Calls Try.prog 26 #[.slice A n c] w fun e w' => e = .returned (.bool (decide ((4096 : Int) < n))) ∧ w = w' := by
  go_enter Try.func26, Try.ntmps26
  go_wp2
  go_ret
  exact ⟨rfl, rfl⟩
set_option maxHeartbeats 2000000 in
theorem w_FnCliques (a0 : Option Addr) (len0 cap0 : Nat) (z0 : List Int) (w : World) (w0 : ArgBytes w a0 len0 cap0 z0) :
    Calls Try.prog 11 #[.slice a0 len0 cap0] w fun e w' => e = .returned (.bool true) ∧ Below w.heap.size w w' := by
  by_cases hbig : 4096 < len0
  · clear w0
    have hb : decide ((4096 : Int) < len0) = true := by simp; omega
    go_enter Try.func11, Try.ntmps11
    go_wp2_with (go_at_call 26; refine (h_bigC _ _ _ _).mono ?_; rintro e w' ⟨rfl, rfl⟩)
    go_ret
    exact ⟨rfl, Below.refl _ _⟩
  · have hI := w0.2.2 (by omega)
    have hb : decide ((4096 : Int) < len0) = false := by simp; omega
    clear w0
    go_enter Try.func11, Try.ntmps11
    go_wp2_with (go_at_call 26; refine (h_bigC _ _ _ _).mono ?_; rintro e w' ⟨rfl, rfl⟩)
    refine (s_DrawCliqueOf _ _ _ _ _ _ hI (Nat.le_refl _)).mono ?_
    rintro e w1 ⟨v1, xs, node, rfl, l1, o1, b1⟩
    obtain ⟨A1, c1, rfl, h1⟩ := o1.ints (by omega)
    have I1 := hI.below b1
    have z1 := b1.size
    have hR := cliqR_len xs node
    have heq := eqL_refl (cliqR xs node)
    clear o1
    go_wp2_with fail
    refine (i_CliqueOf _ _ _ xs node _ _ h1 (Nat.le_refl _)).mono ?_
    rintro e w2 ⟨v2, rfl, o2, b2⟩
    obtain ⟨A2, c2, rfl, k2⟩ := o2.ints (by omega)
    have h2 := h1.below b2
    have z2 := b2.size
    have B2 := b1.trans (b2.mono z1)
    clear o2 h1
    go_wp2_with fail
    refine (s_CliqueOf _ _ _ xs node _ _ h2 (by omega)).mono ?_
    rintro e w3 ⟨v3, rfl, o3, b3⟩
    obtain ⟨A3, c3, rfl, k3⟩ := o3.ints (by omega)
    have h3 := h2.below' (by omega) b3
    have k23 := k2.below b3
    have z3 := b3.size
    have B3 := B2.trans (b3.mono (by omega))
    have I3 := hI.below B3
    clear o3 h2 k2 b1 b2 b3 B2 I1
    go_wp2_with fail
    refine (s_DrawIsMajority _ _ _ _ _ _ I3 (by omega)).mono ?_
    rintro e w4 ⟨ma, mr, rfl, b4⟩
    have h4 := h3.below' (by omega) b4
    have k4 := k3.below b4
    have k24 := k23.below' (by omega) b4
    have z4 := b4.size
    have B4 := B3.trans (b4.mono (by omega))
    have I4 := hI.below B4
    clear h3 k3 k23 b4 B3 I3 hI
    have hm : majB ma mr = true → majB mr ma = false := maj_not ma mr
    generalize hM1 : majB ma mr = M1 at hm
    generalize hM2 : majB mr ma = M2 at hm
    have HM1 := Lib.hid hM1; have HM2 := Lib.hid hM2
    clear hM1 hM2
    go_wp2_with fail
    refine (h_likeInts _ _ _ _ _ _ _ _ _ _ _ k24 k4).mono ?_
    rintro e w5 ⟨rfl, m5, rfl⟩
    rw [heq]
    have hok : cliqOk xs node = true ∨ cliqOk xs node = false := by cases cliqOk xs node <;> simp
    have hM : M1 = false ∨ (M1 = true ∧ M2 = false) := by cases M1 <;> simp_all
    clear hm
    go_wp2_with fail
    refine (i_IsMajority ma mr _).mono ?_
    rintro e w' ⟨rfl, rfl⟩
    rw [HM1.out]
    go_wp2_with fail
    refine (s_IsMajority ma mr _).mono ?_
    rintro e w' ⟨rfl, rfl⟩
    rw [HM1.out]
    rcases hok with hok | hok
    · have hlen : 1 ≤ xs.length := by simp only [cliqOk, Bool.and_eq_true, decide_eq_true_eq] at hok; omega
      have q0 : (cliqC xs node != 0) = false := by simp [cliqC, hok]
      have HL : Hid (∀ q : Nat, q < xs.length → cliqC xs q = 0 ∧ eqL (cliqR xs q) (cliqR xs node) = hasL (cliqR xs node) q) := Lib.hid (fun q hq => cliq_law xs node q hok hq)
      clear hok
      rcases hM with rfl | ⟨rfl, rfl⟩
      all_goals
        go_wp2_with fail
        refine (i_IsMajority ma mr _).mono ?_
        rintro e w' ⟨rfl, rfl⟩
        rw [HM1.out]
        go_wp2_with (go_at_call 44; refine (i_IsMajority mr ma _).mono ?_; rw [HM2.out]; rintro e w' ⟨rfl, rfl⟩)
        refine (h_roll _ _ _ _ _ _ _ (I4.drewN m5) (by show _ ≤ w4.heap.size; omega)).mono ?_
        rintro e w6 ⟨g, rfl, D6, hg, b6⟩
        have b6' : Below w4.heap.size w4 w6 := ⟨b6.os, b6.tape, b6.output, b6.size, b6.block⟩
        have hg' : w4.heap.size ≤ g := hg
        have h6 := h4.below' (by omega) b6'
        have k26 := k24.below' (by omega) b6'
        have z6 := b6'.size
        have B6 := B4.trans (b6'.mono (by omega))
        clear b6 b6' h4 k4 k24 B4 I4 hg
        go_wp2_with fail
        refine (h_below _ _ _ _ D6 (by omega)).mono ?_
        rintro e w7 ⟨r, rfl, r0, r1, D7, g7⟩
        have h7 := h6.grown g7 (by omega) (fun q hq => by injection hq with hq; omega)
        have k27 := k26.grown g7 (by omega) (fun q hq => by injection hq with hq; omega)
        have z7 := g7.size
        have B7 := B6.trans (grown_below g7 (by omega) (fun q hq => by injection hq with hq; omega))
        obtain ⟨p, rfl⟩ := nat_of r r0
        have hp : p < xs.length := by omega
        obtain ⟨e1, e2⟩ := HL.out p hp
        have E1 := Lib.hid e1; have E2 := Lib.hid e2
        have hRp := cliqR_len xs p
        clear e1 e2 g7 D7 D6 B6 h6 k26
        go_wp2_with fail
        refine (i_CliqueOf _ _ _ xs p _ _ h7 (by omega)).mono ?_
        rintro e w8 ⟨v8, rfl, o8, b8⟩
        rw [E1.out]
        obtain ⟨A8, c8, rfl, k8⟩ := o8.ints (by omega)
        have k28 := k27.below' (by omega) b8
        have B8 := B7.trans (b8.mono (by omega))
        clear o8 b8 B7 h7 k27
        go_wp2_with fail
        refine (h_likeInts _ _ _ _ _ _ _ _ _ _ _ k8 k28).mono ?_
        rintro e w9 ⟨rfl, m9, rfl⟩
        rw [E2.out]
        go_wp2_with fail
        refine (h_hasInt _ _ _ (cliqR xs node) p _ _ (k28.drewN m9)).mono ?_
        rintro e w' ⟨rfl, rfl⟩
        generalize hasL (cliqR xs node) p = b
        go_wp2
        go_ret
        exact ⟨by first | rfl | simp, below_drewN B8 m9⟩
    · have q0 : (cliqC xs node != 0) = true := by simp [cliqC, hok]
      clear hok
      rcases hM with rfl | ⟨rfl, rfl⟩
      all_goals
        go_wp2_with fail
        refine (i_IsMajority ma mr _).mono ?_
        rintro e w' ⟨rfl, rfl⟩
        rw [HM1.out]
        go_wp2_with (go_at_call 44; refine (i_IsMajority mr ma _).mono ?_; rw [HM2.out]; rintro e w' ⟨rfl, rfl⟩)
        go_ret
        exact ⟨rfl, below_drewN B4 m5⟩
end Go.Proofs.Ytjheanonklgbcaa

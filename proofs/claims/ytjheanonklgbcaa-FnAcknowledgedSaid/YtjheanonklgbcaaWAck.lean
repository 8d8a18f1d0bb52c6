/- The walk of the law on acknowledgements. -/
import Derived.Test.YtjheanonklgbcaaDrawV2
import Derived.Test.YtjheanonklgbcaaWVecL
namespace Go.Proofs.Ytjheanonklgbcaa
open Go.RowKit
set_option linter.unusedSimpArgs false
set_option linter.unusedVariables false
theorem ack_law (o k f s : Int) (h : ackC o k f s = 0) :
    ackC o k o s = 0 ∧ ackV o k o s = 1 ∧ setC o k = 0 ∧ ackC o k (setV o k false) (setV o k false) = 0 ∧ ackV o k (setV o k false) (setV o k false) = 0 := by
  have hok : ackOk o k f s = true := by
    cases hq : ackOk o k f s
    · simp [ackC, hq] at h
    · rfl
  have hb : o.toNat.testBit k.toNat = true := by
    cases hq : o.toNat.testBit k.toNat
    · simp [ackC, hok, hq] at h
    · rfl
  have hok' := hok
  simp only [ackOk, Bool.and_eq_true, decide_eq_true_eq] at hok'
  obtain ⟨⟨⟨h1, h2⟩, h3⟩, h4⟩ := hok'
  obtain ⟨o0, o1⟩ := vecB_bd h1
  obtain ⟨a, rfl⟩ := nat_of o o0
  obtain ⟨p, rfl⟩ := nat_of k h2.1
  rw [Int.toNat_natCast, Int.toNat_natCast] at hb
  have hso : setOk (a : Int) p = true := by simp only [setOk, h1, h2, decide_true, Bool.and_self, and_self]
  have hsv : setV (a : Int) p false = (setN a p false : Nat) := by simp [setV, hso]
  have hlt := setN_lt a p false (by omega) (by omega)
  have hvL : vecB ((setN a p false : Nat) : Int) = true := vecB_yes (by omega) (by omega)
  have hok2 : ackOk (a : Int) p a s = true := by simp only [ackOk, h1, h2, h4, decide_true, Bool.and_self, and_self]
  have hok3 : ackOk (a : Int) p (setN a p false : Nat) (setN a p false : Nat) = true := by simp only [ackOk, h1, h2, hvL, decide_true, Bool.and_self, and_self]
  have e2 : ackC (a : Int) p a s = 0 := ack_yes hok2 (by simpa using hb)
  have e3 : ackC (a : Int) p (setN a p false : Nat) (setN a p false : Nat) = 0 := ack_yes hok3 (by simpa using hb)
  have hne : a ≠ setN a p false := by
    intro e
    have := testBit_setN a p p false
    rw [← e, hb] at this
    simp at this
  have hL : lessZ (a : Int) p = (setN a p false : Nat) := by simp [lessZ]
  refine ⟨e2, ?_, by simp [setC, hso], by rw [hsv]; exact e3, ?_⟩
  · unfold ackV; rw [e2]; simp
  · rw [hsv]; unfold ackV; rw [e3, hL]
    rw [if_neg (by omega), if_neg (by omega), if_neg (fun h => by omega), if_pos ⟨rfl, rfl⟩]
set_option maxHeartbeats 2000000 in
theorem w_FnAcknowledged (a0 : Option Addr) (len0 cap0 : Nat) (z0 : List Int) (w : World) (w0 : ArgBytes w a0 len0 cap0 z0) :
    Calls Try.prog 10 #[.slice a0 len0 cap0] w fun e w' => e = .returned (.bool true) ∧ Below w.heap.size w w' := by
  by_cases hbig : 4096 < len0
  · clear w0
    have hb : decide ((4096 : Int) < len0) = true := by simp; omega
    go_enter Try.func10, Try.ntmps10
    go_wp2_with (go_at_call 26; refine (h_big _ _ _ _).mono ?_; rintro e w' ⟨rfl, rfl⟩)
    go_ret
    exact ⟨rfl, Below.refl _ _⟩
  · have hI := w0.2.2 (by omega)
    have hb : decide ((4096 : Int) < len0) = false := by simp; omega
    clear w0
    go_enter Try.func10, Try.ntmps10
    go_wp2_with (go_at_call 26; refine (h_big _ _ _ _).mono ?_; rintro e w' ⟨rfl, rfl⟩)
    refine (s_DrawAcknowledgeBy _ _ _ _ _ _ hI (Nat.le_refl _)).mono ?_
    rintro e w1 ⟨o, k, f, s, rfl, b1⟩
    have z1 := b1.size
    go_wp2_with fail
    refine (i_AcknowledgeBy o k f s _).mono ?_
    rintro e w' ⟨rfl, rfl⟩
    go_wp2_with fail
    refine (s_AcknowledgeBy o k f s _).mono ?_
    rintro e w2 ⟨rfl, b2⟩
    have B2 := b1.trans (b2.mono z1)
    clear hI b1 b2
    by_cases hc : ackC o k f s = 0
    · have q0 : (ackC o k f s != 0) = false := by simpa using hc
      obtain ⟨e1, e2, e3, e4, e5⟩ := ack_law o k f s hc
      have E1 := Lib.hid e1; have E2 := Lib.hid e2; have E3 := Lib.hid e3; have E4 := Lib.hid e4; have E5 := Lib.hid e5
      clear hc e1 e2 e3 e4 e5
      go_wp2_with fail
      refine (i_AcknowledgeBy o k o s _).mono ?_
      rintro e w' ⟨rfl, rfl⟩
      rw [E1.out, E2.out]
      go_wp2_with fail
      refine (i_SetMember o k false _).mono ?_
      rintro e w' ⟨rfl, rfl⟩
      rw [E3.out]
      go_wp2_with fail
      refine (i_AcknowledgeBy o k (setV o k false) (setV o k false) _).mono ?_
      rintro e w' ⟨rfl, rfl⟩
      rw [E4.out, E5.out]
      go_wp2
      go_ret
      exact ⟨rfl, B2⟩
    · have q0 : (ackC o k f s != 0) = true := by simpa using hc
      clear hc
      go_wp2
      go_ret
      exact ⟨rfl, B2⟩
end Go.Proofs.Ytjheanonklgbcaa

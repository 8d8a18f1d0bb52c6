/- Contracts of FitsDescriptor, of the program and of the reference. -/
import Derived.Test.YtecelofoffdjlaaFrmH
import Derived.Test.YtecelofoffdjlaaDesc2
namespace Go.Proofs.Ytecelofoffdjlaa
open Go.RowKit
set_option linter.unusedSimpArgs false
set_option linter.unusedVariables false
def fitB (dk dz : Int) (ch : Bool) (k q : Int) (n : Nat) : Bool := (k == dk) && ((n : Int) == dz) && (q == 0 || ch)
def fitOk (nd dk dz du : Int) (ch : Bool) (k q t m r s v : Int) (xs : List Int) : Bool := descOk nd dk dz du ch && frOk k q t m r s v xs && fitB dk dz ch k q xs.length
set_option maxHeartbeats 1000000 in
theorem i_fits (nd dk dz du : Int) (ch : Bool) (k q t m r s v : Int) (A : Option Addr) (n c : Nat) (w : World) (hn : n ≤ 16777216) :
    Calls Try.prog 74 #[.agg #[.int .i64 nd, .int .i64 dk, .int .i64 dz, .int .i64 du, .bool ch], .agg #[.int .i64 k, .int .i64 q, .int .i64 t, .int .i64 m, .int .i64 r, .int .i64 s, .int .i64 v, .slice A n c]] w fun e w' => e = .returned (.bool (fitB dk dz ch k q n)) ∧ Below w.heap.size w w' := by
  cases h1 : (k == dk)
  · rw [show fitB dk dz ch k q n = false by simp only [fitB, h1, Bool.false_and]]
    go_enter Try.func74, Try.ntmps74
    go_wp2
    go_ret
    exact ⟨rfl, ((Below.refl _ _).alloc (Nat.le_refl _) _).alloc (by simp) _⟩
  cases h2 : ((n : Int) == dz)
  · rw [show fitB dk dz ch k q n = false by simp only [fitB, h1, h2, Bool.and_false, Bool.false_and]]
    go_enter Try.func74, Try.ntmps74
    go_wp2
    go_ret
    exact ⟨rfl, ((Below.refl _ _).alloc (Nat.le_refl _) _).alloc (by simp) _⟩
  cases h3 : (q == 0)
  · rw [show fitB dk dz ch k q n = ch by simp only [fitB, h1, h2, h3, Bool.true_and, Bool.false_or]]
    cases ch
    all_goals
      go_enter Try.func74, Try.ntmps74
      go_wp2
      go_ret
      exact ⟨rfl, ((Below.refl _ _).alloc (Nat.le_refl _) _).alloc (by simp) _⟩
  · rw [show fitB dk dz ch k q n = true by simp only [fitB, h1, h2, h3, Bool.true_and, Bool.true_or]]
    go_enter Try.func74, Try.ntmps74
    go_wp2
    go_ret
    exact ⟨rfl, ((Below.refl _ _).alloc (Nat.le_refl _) _).alloc (by simp) _⟩
set_option maxHeartbeats 2000000 in
theorem i_FitsDescriptor (nd dk dz du : Int) (ch : Bool) (k q t m r s v : Int) (A : Option Addr) (n c : Nat) (xs : List Int) (B : Nat) (w : World) (h : IntsAt w B A n c xs) (hB : B ≤ w.heap.size) :
    Calls Try.prog 29 #[.agg #[.int .i64 nd, .int .i64 dk, .int .i64 dz, .int .i64 du, .bool ch], .agg #[.int .i64 k, .int .i64 q, .int .i64 t, .int .i64 m, .int .i64 r, .int .i64 s, .int .i64 v, .slice A n c]] w fun e w' => e = .returned (.bool (fitOk nd dk dz du ch k q t m r s v xs)) ∧ Below w.heap.size w w' := by
  have hl := h.len
  have hn := h.small
  subst hl
  obtain ⟨x1, x2⟩ := alloc2 w (.cells #[.int .i64 nd, .int .i64 dk, .int .i64 dz, .int .i64 du, .bool ch] 26) (.cells #[.int .i64 k, .int .i64 q, .int .i64 t, .int .i64 m, .int .i64 r, .int .i64 s, .int .i64 v, .slice A xs.length c] 47)
  have X1 := Lib.hid x1; have X2 := Lib.hid x2; clear x1 x2
  cases hd : descOk nd dk dz du ch
  · rw [show fitOk nd dk dz du ch k q t m r s v xs = false by simp only [fitOk, hd, Bool.false_and]]
    go_enter Try.func29, Try.ntmps29
    go_wp2_with fail
    refine (i_IsDescriptor nd dk dz du ch _).mono ?_
    rw [hd]
    rintro e w1 ⟨rfl, hb⟩
    go_wp2
    go_ret
    exact ⟨rfl, (((Below.refl _ _).alloc (Nat.le_refl _) _).alloc (by simp) _).trans (hb.mono (by simp; omega))⟩
  · cases hf : frOk k q t m r s v xs
    · rw [show fitOk nd dk dz du ch k q t m r s v xs = false by simp only [fitOk, hf, Bool.and_false, Bool.false_and]]
      go_enter Try.func29, Try.ntmps29
      go_wp2_with fail
      refine (i_IsDescriptor nd dk dz du ch _).mono ?_
      rw [hd]
      rintro e w1 ⟨rfl, hb⟩
      have R1 := (hb.block w.heap.size (by simp; omega)).trans X1.out
      have R2 := (hb.block (w.heap.size + 1) (by simp)).trans X2.out
      have B1 := (((Below.refl w.heap.size w).alloc (Nat.le_refl _) _).alloc (by simp) _).trans (hb.mono (by simp; omega))
      have z1 := Below.lt_of' R2
      obtain ⟨c0, c1, c2, c3, c4, c5, c6, c7⟩ := fr_cells R2
      clear hb X1 X2
      go_wp2_with fail
      refine (i_IsFrame k q t m r s v _ _ _ _ _ _ (h.below' hB B1) (by omega)).mono ?_
      rw [hf]
      rintro e w2 ⟨rfl, hb⟩
      go_wp2
      go_ret
      exact ⟨rfl, B1.trans (hb.mono (by omega))⟩
    · rw [show fitOk nd dk dz du ch k q t m r s v xs = fitB dk dz ch k q xs.length by simp only [fitOk, hd, hf, Bool.true_and]]
      go_enter Try.func29, Try.ntmps29
      go_wp2_with fail
      refine (i_IsDescriptor nd dk dz du ch _).mono ?_
      rw [hd]
      rintro e w1 ⟨rfl, hb⟩
      have R1 := (hb.block w.heap.size (by simp; omega)).trans X1.out
      have R2 := (hb.block (w.heap.size + 1) (by simp)).trans X2.out
      have B1 := (((Below.refl w.heap.size w).alloc (Nat.le_refl _) _).alloc (by simp) _).trans (hb.mono (by simp; omega))
      have z1 := Below.lt_of' R2
      obtain ⟨c0, c1, c2, c3, c4, c5, c6, c7⟩ := fr_cells R2
      clear hb X1 X2
      go_wp2_with fail
      refine (i_IsFrame k q t m r s v _ _ _ _ _ _ (h.below' hB B1) (by omega)).mono ?_
      rw [hf]
      rintro e w2 ⟨rfl, hb⟩
      have S1 := (hb.block w.heap.size (by omega)).trans R1
      have S2 := (hb.block (w.heap.size + 1) (by omega)).trans R2
      have B2 := B1.trans (hb.mono (by omega))
      clear c0 c1 c2 c3 c4 c5 c6 c7 hb R1 R2 B1
      have z2 := Below.lt_of' S2
      obtain ⟨d0, d1, d2, d3, d4⟩ := desc_cells S1
      obtain ⟨c0, c1, c2, c3, c4, c5, c6, c7⟩ := fr_cells S2
      go_wp2_with fail
      refine (i_fits nd dk dz du ch k q t m r s v A _ c _ hn).mono ?_
      rintro e w3 ⟨rfl, hb⟩
      go_wp2
      go_ret
      exact ⟨rfl, B2.trans (hb.mono (by omega))⟩
set_option maxHeartbeats 2000000 in
theorem s_FitsDescriptor (nd dk dz du : Int) (ch : Bool) (k q t m r s v : Int) (A : Option Addr) (n c : Nat) (xs : List Int) (B : Nat) (w : World) (h : IntsAt w B A n c xs) (hB : B ≤ w.heap.size) :
    Calls Try.prog 27 #[.agg #[.int .i64 nd, .int .i64 dk, .int .i64 dz, .int .i64 du, .bool ch], .agg #[.int .i64 k, .int .i64 q, .int .i64 t, .int .i64 m, .int .i64 r, .int .i64 s, .int .i64 v, .slice A n c]] w fun e w' => e = .returned (.bool (fitOk nd dk dz du ch k q t m r s v xs)) ∧ Below w.heap.size w w' := by
  have hl := h.len
  have hn := h.small
  subst hl
  obtain ⟨x1, x2⟩ := alloc2 w (.cells #[.int .i64 nd, .int .i64 dk, .int .i64 dz, .int .i64 du, .bool ch] 26) (.cells #[.int .i64 k, .int .i64 q, .int .i64 t, .int .i64 m, .int .i64 r, .int .i64 s, .int .i64 v, .slice A xs.length c] 47)
  have X1 := Lib.hid x1; have X2 := Lib.hid x2; clear x1 x2
  cases hd : descOk nd dk dz du ch
  · rw [show fitOk nd dk dz du ch k q t m r s v xs = false by simp only [fitOk, hd, Bool.false_and]]
    go_enter Try.func27, Try.ntmps27
    go_wp2_with fail
    refine (s_IsDescriptor nd dk dz du ch _).mono ?_
    rw [hd]
    rintro e w1 ⟨rfl, hb⟩
    go_wp2
    go_ret
    exact ⟨rfl, (((Below.refl _ _).alloc (Nat.le_refl _) _).alloc (by simp) _).trans (hb.mono (by simp; omega))⟩
  · cases hf : frOk k q t m r s v xs
    · rw [show fitOk nd dk dz du ch k q t m r s v xs = false by simp only [fitOk, hf, Bool.and_false, Bool.false_and]]
      go_enter Try.func27, Try.ntmps27
      go_wp2_with fail
      refine (s_IsDescriptor nd dk dz du ch _).mono ?_
      rw [hd]
      rintro e w1 ⟨rfl, hb⟩
      have R1 := (hb.block w.heap.size (by simp; omega)).trans X1.out
      have R2 := (hb.block (w.heap.size + 1) (by simp)).trans X2.out
      have B1 := (((Below.refl w.heap.size w).alloc (Nat.le_refl _) _).alloc (by simp) _).trans (hb.mono (by simp; omega))
      have z1 := Below.lt_of' R2
      obtain ⟨c0, c1, c2, c3, c4, c5, c6, c7⟩ := fr_cells R2
      clear hb X1 X2
      go_wp2_with fail
      refine (s_IsFrame k q t m r s v _ _ _ _ _ _ (h.below' hB B1) (by omega)).mono ?_
      rw [hf]
      rintro e w2 ⟨rfl, hb⟩
      go_wp2
      go_ret
      exact ⟨rfl, B1.trans (hb.mono (by omega))⟩
    · have hw : ((k == dk) = false ∧ fitOk nd dk dz du ch k q t m r s v xs = false) ∨ ((k == dk) = true ∧ ((xs.length : Int) == dz) = false ∧ fitOk nd dk dz du ch k q t m r s v xs = false) ∨
          ((k == dk) = true ∧ ((xs.length : Int) == dz) = true ∧ ch = true ∧ fitOk nd dk dz du ch k q t m r s v xs = true) ∨ ((k == dk) = true ∧ ((xs.length : Int) == dz) = true ∧ ch = false ∧ (q == 0) = false ∧ fitOk nd dk dz du ch k q t m r s v xs = false) ∨
          ((k == dk) = true ∧ ((xs.length : Int) == dz) = true ∧ ch = false ∧ (q == 0) = true ∧ fitOk nd dk dz du ch k q t m r s v xs = true) := by
        simp only [fitOk, fitB, hd, hf]
        cases (k == dk) <;> cases ((xs.length : Int) == dz) <;> cases ch <;> cases (q == 0) <;> simp
      have Hd := Lib.hid hd; have Hf := Lib.hid hf; clear hd hf
      rcases hw with ⟨h1, he⟩ | ⟨h1, h2, he⟩ | ⟨h1, h2, rfl, he⟩ | ⟨h1, h2, rfl, h3, he⟩ | ⟨h1, h2, rfl, h3, he⟩
      all_goals
        rw [he]; clear he
        go_enter Try.func27, Try.ntmps27
        go_wp2_with fail
        refine (s_IsDescriptor nd dk dz du _ _).mono ?_
        rw [Hd.out]
        rintro e w1 ⟨rfl, hb⟩
        have R1 := (hb.block w.heap.size (by simp; omega)).trans X1.out
        have R2 := (hb.block (w.heap.size + 1) (by simp)).trans X2.out
        have B1 := (((Below.refl w.heap.size w).alloc (Nat.le_refl _) _).alloc (by simp) _).trans (hb.mono (by simp; omega))
        have z1 := Below.lt_of' R2
        obtain ⟨c0, c1, c2, c3, c4, c5, c6, c7⟩ := fr_cells R2
        clear hb X1 X2
        go_wp2_with fail
        refine (s_IsFrame k q t m r s v _ _ _ _ _ _ (h.below' hB B1) (by omega)).mono ?_
        rw [Hf.out]
        rintro e w2 ⟨rfl, hb⟩
        have S1 := (hb.block w.heap.size (by omega)).trans R1
        have S2 := (hb.block (w.heap.size + 1) (by omega)).trans R2
        have B2 := B1.trans (hb.mono (by omega))
        clear c0 c1 c2 c3 c4 c5 c6 c7 hb R1 R2 B1
        obtain ⟨d0, d1, d2, d3, d4⟩ := desc_cells S1
        obtain ⟨c0, c1, c2, c3, c4, c5, c6, c7⟩ := fr_cells S2
        go_wp2
        go_ret
        exact ⟨rfl, B2⟩
end Go.Proofs.Ytecelofoffdjlaa

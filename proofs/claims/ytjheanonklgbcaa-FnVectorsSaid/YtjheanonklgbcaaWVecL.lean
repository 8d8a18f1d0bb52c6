/- The walks of the laws on vectors that draw their inputs. -/
import Derived.Test.YtjheanonklgbcaaDrawV
import Derived.Test.YtjheanonklgbcaaAck
import Derived.Test.YtjheanonklgbcaaDice
namespace Go.Proofs.Ytjheanonklgbcaa
open Go.RowKit
set_option linter.unusedSimpArgs false
set_option linter.unusedVariables false
theorem set_back (m k : Int) (b : Bool) (h : setOk m k = true) : setC m k = 0 ∧ setC (setV m k b) k = 0 ∧ setV (setV m k b) k (memB m k) = m ∧ memB (setV m k b) k = b := by
  have h' := h
  simp only [setOk, Bool.and_eq_true, decide_eq_true_eq] at h'
  obtain ⟨hv, hk0, hk1⟩ := h'
  obtain ⟨hm0, hm1⟩ := vecB_bd hv
  obtain ⟨a, rfl⟩ := nat_of m hm0
  obtain ⟨p, rfl⟩ := nat_of k hk0
  have e1 : setV (a : Int) p b = (setN a p b : Nat) := by simp [setV, h]
  have hlt := setN_lt a p b (by omega) (by omega)
  have ho : setOk ((setN a p b : Nat) : Int) p = true := by simp [setOk, vecB]; omega
  have e2 : memB (a : Int) p = a.testBit p := by simp [memB, h]
  refine ⟨by simp [setC, h], by rw [e1]; simp [setC, ho], ?_, ?_⟩
  · rw [e1, e2]; simp only [setV, ho, if_true, Int.toNat_natCast, setN_back]
  · rw [e1]; simp only [memB, ho, Bool.true_and, Int.toNat_natCast, testBit_setN, if_true]
theorem vecOf_mem (a : Nat) (k : Nat) (hk : k ≤ 32) (ha : a < 4294967296) : vecOf (memList a k) = some (a % 2 ^ k) := by
  induction k with
  | zero => simp [memList, vecOf, Nat.mod_one]
  | succ k ih =>
    have ih := ih (by omega)
    have hh := hasB_small a k ha
    have hm : a % 2 ^ k < 2 ^ k := Nat.mod_lt _ (Nat.two_pow_pos k)
    have hmod : a % 2 ^ (k + 1) = a % 2 ^ k + (if a.testBit k then 2 ^ k else 0) := by
      rw [Nat.mod_pow_succ, Nat.testBit_eq_decide_div_mod_eq]
      rcases Nat.mod_two_eq_zero_or_one (a / 2 ^ k) with h | h <;> rw [h] <;> simp
    rw [memList_succ]
    cases hb : a.testBit k
    · rw [hb] at hh
      rw [if_neg (by rw [hh]; simp), ih, hmod, hb]; simp
    · rw [hb] at hh
      rw [if_pos hh]
      unfold vecOf at ih ⊢
      rw [List.foldl_append, ih]
      simp only [List.foldl_cons, List.foldl_nil, vecStep, Int.toNat_natCast]
      rw [if_pos ⟨by omega, by omega, testBit_small _ _ hm⟩, setN_new _ _ hm, hmod, hb]
      simp
theorem vecOf_members (m : Int) (h : vecB m = true) : vecV (membersL m) = m ∧ vecC (membersL m) = 0 := by
  obtain ⟨h0, h1⟩ := vecB_bd h
  obtain ⟨a, rfl⟩ := nat_of m h0
  have e : membersL (a : Int) = memList a 32 := by simp [membersL, h]
  have e2 := vecOf_mem a 32 (by omega) (by omega)
  rw [Nat.mod_eq_of_lt (show a < 2 ^ 32 by omega)] at e2
  rw [e]
  exact vec_some e2
theorem h_big (A : Option Addr) (n c : Nat) (w : World) :
    Calls Try.prog 26 #[.slice A n c] w fun e w' => e = .returned (.bool (decide ((4096 : Int) < n))) ∧ w = w' := by
  go_enter Try.func26, Try.ntmps26
  go_wp2
  go_ret
  exact ⟨rfl, rfl⟩
set_option maxHeartbeats 2000000 in
theorem w_FnVectors (a0 : Option Addr) (len0 cap0 : Nat) (z0 : List Int) (w : World) (w0 : ArgBytes w a0 len0 cap0 z0) :
    Calls Try.prog 13 #[.slice a0 len0 cap0] w fun e w' => e = .returned (.bool true) ∧ Below w.heap.size w w' := by
  by_cases hbig : 4096 < len0
  · clear w0
    have hb : decide ((4096 : Int) < len0) = true := by simp; omega
    go_enter Try.func13, Try.ntmps13
    go_wp2_with (go_at_call 26; refine (h_big _ _ _ _).mono ?_; rintro e w' ⟨rfl, rfl⟩)
    go_ret
    exact ⟨rfl, Below.refl _ _⟩
  · have hI := w0.2.2 (by omega)
    have hb : decide ((4096 : Int) < len0) = false := by simp; omega
    clear w0
    go_enter Try.func13, Try.ntmps13
    go_wp2_with (go_at_call 26; refine (h_big _ _ _ _).mono ?_; rintro e w' ⟨rfl, rfl⟩)
    refine (s_DrawMembersOf _ _ _ _ _ _ hI (Nat.le_refl _)).mono ?_
    rintro e w1 ⟨M, rfl, b1⟩
    have I1 := hI.below b1
    have z1 := b1.size
    go_wp2_with fail
    refine (i_MembersOf M _).mono ?_
    rintro e w2 ⟨v2, rfl, o2, b2⟩
    have hL := Nat.le_trans (membersL_len M) (show 32 ≤ 16777216 by omega)
    obtain ⟨A2, c2, rfl, h2⟩ := o2.ints hL
    have I2 := I1.below' z1 b2
    have z2 := b2.size
    have B2 := b1.trans (b2.mono z1)
    clear o2 I1 b1 b2
    go_wp2_with fail
    refine (s_MembersOf M _).mono ?_
    rintro e w3 ⟨v3, rfl, o3, b3⟩
    obtain ⟨A3, c3, rfl, h3⟩ := o3.ints hL
    have I3 := I2.below' (by omega) b3
    have h23 := h2.below b3
    have z3 := b3.size
    have B3 := B2.trans (b3.mono (by omega))
    clear o3 I2 B2 b3 h2
    go_wp2_with fail
    refine (s_DrawSetMember _ _ _ _ _ _ I3 (by omega)).mono ?_
    rintro e w4 ⟨m, k, b, rfl, b4⟩
    have I4 := I3.below' (by omega) b4
    have h24 := h23.below' (by omega) b4
    have h34 := h3.below b4
    have z4 := b4.size
    have B4 := B3.trans (b4.mono (by omega))
    clear I3 B3 b4 h23 h3
    go_wp2_with fail
    refine (i_SetMember m k b _).mono ?_
    rintro e w' ⟨rfl, rfl⟩
    go_wp2_with fail
    refine (s_SetMember m k b _).mono ?_
    rintro e w5 ⟨rfl, b5⟩
    have I5 := I4.below' (by omega) b5
    have h25 := h24.below' (by omega) b5
    have h35 := h34.below' (by omega) b5
    have z5 := b5.size
    have B5 := B4.trans (b5.mono (by omega))
    clear I4 B4 b5 h24 h34
    have he := eqL_refl (membersL M)
    go_wp2_with fail
    refine (h_likeInts _ _ _ _ _ _ _ _ _ _ _ h25 h35).mono ?_
    rintro e w6 ⟨rfl, N6, rfl⟩
    have I6 := I5.drewN N6
    have h26 := h25.drewN N6
    have B6 := below_drewN B5 N6
    have z6 : w5.heap.size ≤ (w5.drewN N6).heap.size := Nat.le_refl _
    clear I5 h25 h35 B5
    by_cases hs : setOk m k = true
    · obtain ⟨e1, e2, e3, e4⟩ := set_back m k b hs
      clear hs
      have q0 : (setC m k == 0) = true := by rw [e1]; rfl
      have E3 := Lib.hid e3; have E2 := Lib.hid e2; have E4 := Lib.hid e4
      clear e1 e2 e3 e4
      go_wp2_with (go_at_call 55; refine (i_HasMember m k _).mono ?_; rintro e w' ⟨rfl, rfl⟩)
      refine (i_SetMember (setV m k b) k (memB m k) _).mono ?_
      rintro e w' ⟨rfl, rfl⟩
      rw [E2.out, E3.out]
      go_wp2_with fail
      refine (i_HasMember (setV m k b) k _).mono ?_
      rintro e w' ⟨rfl, rfl⟩
      rw [E4.out]
      by_cases hv : vecB M = true
      · obtain ⟨ev, ec⟩ := vecOf_members M hv
        have q1 : (membersC M != 0) = false := by simp [membersC, hv]
        have Ev := Lib.hid ev; have Ec := Lib.hid ec
        clear hv ev ec
        go_wp2_with fail
        refine (i_VectorOf _ _ _ (membersL M) _ _ h26).mono ?_
        rintro e w' ⟨rfl, rfl⟩
        rw [Ev.out, Ec.out]
        go_wp2_with fail
        refine (s_DrawVectorOf _ _ _ _ _ _ I6 (by omega)).mono ?_
        rintro e w7 ⟨v7, ys, rfl, l7, o7, b7⟩
        have B7 := B6.trans (b7.mono (by omega))
        obtain ⟨A7, c7, rfl, h7⟩ := o7.ints (by omega)
        go_wp2_with fail
        refine (i_VectorOf _ _ _ ys _ _ h7).mono ?_
        rintro e w' ⟨rfl, rfl⟩
        go_wp2_with fail
        refine (s_VectorOf _ _ _ ys _ _ h7).mono ?_
        rintro e w' ⟨rfl, rfl⟩
        go_wp2
        go_ret
        exact ⟨rfl, B7⟩
      · have q1 : (membersC M != 0) = true := by simp [membersC, hv]
        clear hv
        go_wp2
        go_ret
        exact ⟨rfl, B6⟩
    · have q0 : (setC m k == 0) = false := by simp [setC, hs]
      clear hs
      by_cases hv : vecB M = true
      · obtain ⟨ev, ec⟩ := vecOf_members M hv
        have q1 : (membersC M != 0) = false := by simp [membersC, hv]
        have Ev := Lib.hid ev; have Ec := Lib.hid ec
        clear hv ev ec
        go_wp2_with fail
        refine (i_VectorOf _ _ _ (membersL M) _ _ h26).mono ?_
        rintro e w' ⟨rfl, rfl⟩
        rw [Ev.out, Ec.out]
        go_wp2_with fail
        refine (s_DrawVectorOf _ _ _ _ _ _ I6 (by omega)).mono ?_
        rintro e w7 ⟨v7, ys, rfl, l7, o7, b7⟩
        have B7 := B6.trans (b7.mono (by omega))
        obtain ⟨A7, c7, rfl, h7⟩ := o7.ints (by omega)
        go_wp2_with fail
        refine (i_VectorOf _ _ _ ys _ _ h7).mono ?_
        rintro e w' ⟨rfl, rfl⟩
        go_wp2_with fail
        refine (s_VectorOf _ _ _ ys _ _ h7).mono ?_
        rintro e w' ⟨rfl, rfl⟩
        go_wp2
        go_ret
        exact ⟨rfl, B7⟩
      · have q1 : (membersC M != 0) = true := by simp [membersC, hv]
        clear hv
        go_wp2
        go_ret
        exact ⟨rfl, B6⟩
/-- How many of a list are v. -/
def cntV (xs : List Int) (v : Int) : Nat := (xs.filter fun x => decide (x = v)).length
theorem cliqL_cnt (xs : List Int) (v : Int) (k : Nat) (hk : k ≤ xs.length) : (cliqL xs v k).length = cntV (xs.take k) v := by
  induction k with
  | zero => simp [cliqL, cntV]
  | succ k ih =>
    rw [cliqL_succ, take_succ_getD xs k (by omega)]
    unfold cntV at *
    rw [List.filter_append, List.length_append]
    by_cases h : xs.getD k 0 = v
    · rw [if_pos h, List.length_append, ih (by omega)]
      simp only [List.filter_cons, h, decide_true, if_true, List.filter_nil, List.length_cons, List.length_nil]
    · rw [if_neg h, ih (by omega)]
      simp only [List.filter_cons, h, decide_false, List.filter_nil, List.length_nil]; simp
theorem cnt_hit (xs : List Int) (v : Int) (k : Nat) (h : hasB v k = true) : cntV xs v ≤ cntB xs k := by
  induction xs with
  | nil => simp [cntV, cntB]
  | cons x xs ih =>
    unfold cntV cntB at *
    by_cases hx : x = v
    · subst hx
      simp only [List.filter_cons, decide_true, h, if_true, List.length_cons]; omega
    · simp only [List.filter_cons, hx, decide_false]
      cases hasB x k <;> simp <;> omega
theorem cnt_miss (xs : List Int) (v : Int) (k : Nat) (h : hasB v k = false) : cntV xs v + cntB xs k ≤ xs.length := by
  induction xs with
  | nil => simp [cntV, cntB]
  | cons x xs ih =>
    unfold cntV cntB at *
    by_cases hx : x = v
    · subst hx
      simp only [List.filter_cons, decide_true, h, if_true, List.length_cons]; simp; omega
    · simp only [List.filter_cons, hx, decide_false]
      cases hasB x k <;> simp <;> omega
theorem agr_most (xs : List Int) (a : Nat) (ha : a < 4294967296) (h : xs.length < 2 * cntV xs a) (k : Nat) (hk : k ≤ 32) : agr xs k = a % 2 ^ k := by
  induction k with
  | zero => simp [agr, Nat.mod_one]
  | succ k ih =>
    have ih := ih (by omega)
    have hh := hasB_small a k ha
    rw [agr, ih, Nat.mod_pow_succ]
    rw [Nat.testBit_eq_decide_div_mod_eq] at hh
    rcases Nat.mod_two_eq_zero_or_one (a / 2 ^ k) with q | q
    · rw [q] at hh ⊢
      have := cnt_miss xs a k (by rw [hh]; decide)
      rw [if_neg (by omega)]; simp
    · rw [q] at hh ⊢
      have := cnt_hit xs a k (by rw [hh]; decide)
      rw [if_pos (by omega)]; simp
theorem cliq_mem (xs : List Int) (k : Nat) (hk : k < xs.length) : hasL (cliqL xs (xs.getD k 0) xs.length) (k : Int) = true := by
  have h : (k : Int) ∈ cliqL xs (xs.getD k 0) xs.length := List.mem_map.2 ⟨k, List.mem_filter.2 ⟨List.mem_range.2 hk, by simp⟩, rfl⟩
  unfold hasL; exact decide_eq_true h
theorem agreed_law (xs : List Int) (k : Nat) (hok : agreedOk xs = true) (hk : k < xs.length) :
    cliqC xs k = 0 ∧ hasL (cliqR xs k) k = true ∧ (xs.length < 2 * (cliqR xs k).length → agreedV xs = xs.getD k 0) := by
  have hok' := hok
  simp only [agreedOk, Bool.and_eq_true, decide_eq_true_eq] at hok'
  obtain ⟨⟨h1, h2⟩, h3⟩ := hok'
  have hc : cliqOk xs k = true := by simp [cliqOk, h2, h3, hk]
  have hR : cliqR xs k = cliqL xs (xs.getD k 0) xs.length := by simp [cliqR, hc]
  refine ⟨by simp [cliqC, hc], by rw [hR]; exact cliq_mem xs k hk, fun h => ?_⟩
  rw [hR, cliqL_cnt xs _ _ (Nat.le_refl _), List.take_length] at h
  have hb := (allIn_iff xs 0 4294967295).1 h3 k hk
  obtain ⟨a, ha⟩ := nat_of (xs.getD k 0) hb.1
  rw [ha] at h hb ⊢
  have := agr_most xs a (by omega) h 32 (Nat.le_refl _)
  rw [Nat.mod_eq_of_lt (show a < 2 ^ 32 by omega)] at this
  simp [agreedV, hok, this]
set_option maxHeartbeats 2000000 in
theorem w_FnAgreed (a0 : Option Addr) (len0 cap0 : Nat) (z0 : List Int) (w : World) (w0 : ArgBytes w a0 len0 cap0 z0) :
    Calls Try.prog 12 #[.slice a0 len0 cap0] w fun e w' => e = .returned (.bool true) ∧ Below w.heap.size w w' := by
  by_cases hbig : 4096 < len0
  · clear w0
    have hb : decide ((4096 : Int) < len0) = true := by simp; omega
    go_enter Try.func12, Try.ntmps12
    go_wp2_with (go_at_call 26; refine (h_big _ _ _ _).mono ?_; rintro e w' ⟨rfl, rfl⟩)
    go_ret
    exact ⟨rfl, Below.refl _ _⟩
  · have hI := w0.2.2 (by omega)
    have hb : decide ((4096 : Int) < len0) = false := by simp; omega
    clear w0
    go_enter Try.func12, Try.ntmps12
    go_wp2_with (go_at_call 26; refine (h_big _ _ _ _).mono ?_; rintro e w' ⟨rfl, rfl⟩)
    refine (s_DrawAgreedMembers _ _ _ _ _ _ hI (Nat.le_refl _)).mono ?_
    rintro e w1 ⟨v1, xs, rfl, l1, o1, b1⟩
    obtain ⟨A1, c1, rfl, h1⟩ := o1.ints (by omega)
    have I1 := hI.below b1
    have z1 := b1.size
    clear o1
    go_wp2_with fail
    refine (i_AgreedMembers _ _ _ xs _ _ h1).mono ?_
    rintro e w' ⟨rfl, rfl⟩
    go_wp2_with fail
    refine (s_AgreedMembers _ _ _ xs _ _ h1).mono ?_
    rintro e w' ⟨rfl, rfl⟩
    by_cases hok : agreedOk xs = true
    · have q0 : (agreedC xs != 0) = false := by simp [agreedC, hok]
      have hlen : 1 ≤ xs.length := by simp [agreedOk] at hok; omega
      have Hok := Lib.hid hok
      clear hok
      go_wp2_with fail
      refine (h_roll _ _ _ _ _ _ _ I1 z1).mono ?_
      rintro e w2 ⟨g, rfl, D2, hg, b2⟩
      have h2 := h1.below b2
      have z2 := b2.size
      have B2 := b1.trans (b2.mono z1)
      go_wp2_with fail
      refine (h_below _ _ _ _ D2 (by omega)).mono ?_
      rintro e w3 ⟨r, rfl, r0, r1, D3, g3⟩
      have h3 := h2.grown g3 (by omega) (fun q hq => by injection hq with hq; omega)
      have z3 := g3.size
      have B3 := B2.trans (grown_below g3 (by omega) (fun q hq => by injection hq with hq; omega))
      obtain ⟨p, rfl⟩ := nat_of r r0
      have hp : p < xs.length := by omega
      obtain ⟨e1, e2, e3⟩ := agreed_law xs p Hok.out hp
      have E1 := Lib.hid e1; have E2 := Lib.hid e2; have E3 := Lib.hid e3
      clear e1 e2 e3 g3 D3 D2 b2 B2 h2 I1 hI b1 h1
      go_wp2_with fail
      refine (i_CliqueOf _ _ _ xs p _ _ h3 (by omega)).mono ?_
      rintro e w4 ⟨v4, rfl, o4, b4⟩
      rw [E1.out]
      have hR := cliqR_len xs p
      obtain ⟨A4, c4, rfl, h4⟩ := o4.ints (by omega)
      have h34 := h3.below' (by omega) b4
      have B4 := B3.trans (b4.mono (by omega))
      clear o4 b4 B3 h3
      go_wp2_with fail
      refine (h_hasInt _ _ _ (cliqR xs p) p _ _ h4).mono ?_
      rintro e w' ⟨rfl, rfl⟩
      rw [E2.out]
      clear h4
      obtain ⟨ad, hA, _, hcell⟩ := h34.at_ p hp
      subst hA
      clear h34
      have c0 : (0 : Int) ≤ (p : Int) := by omega
      have c1' : (p : Int) < (xs.length : Int) := by omega
      by_cases hm : xs.length < 2 * (cliqR xs p).length
      · have e3 := E3.out hm
        have q1 : (agreedV xs == xs.getD p 0) = true := by simpa using e3
        have q2 : xs.getD p 0 = xs[p] := getD_lt xs p hp
        generalize hX : xs.getD p 0 = x at hcell q1 q2
        have HX := Lib.hid hX; have Q2 := Lib.hid q2
        clear hX e3 q2
        go_wp2
        go_ret
        exact ⟨by first | rfl | simp [q1], B4⟩
      · go_wp2
        go_ret
        exact ⟨rfl, B4⟩
    · have q0 : (agreedC xs != 0) = true := by simp [agreedC, hok]
      clear hok
      go_wp2
      go_ret
      exact ⟨rfl, b1⟩
end Go.Proofs.Ytjheanonklgbcaa

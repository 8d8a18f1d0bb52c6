/- IsModeTable, both texts. -/
import Derived.Test.YtgenfffgenddmaaMod4
import Derived.Deep.Cut
import Derived.Deep.CutRange
namespace Go.Proofs.Ytgenfffgenddmaa
open Go.RowKit
set_option linter.unusedSimpArgs false
set_option linter.unusedVariables false
def in18 (r : Int) : Bool := decide (1 ≤ r ∧ r ≤ 8)
def in116 (r : Int) : Bool := decide (1 ≤ r ∧ r ≤ 16)
def mdOk (n k : Nat) (d : Md) : Bool := in18 d.r && in116 d.s && riseL d.xs n d.xs.length && !hasK d.xs k d.xs.length
def mtK (M : List Md) (n : Nat) : Nat → Bool
  | 0 => true
  | k + 1 => mtK M n k && (match M[k]? with | some d => mdOk n k d | none => true)
def mtOk (M : List Md) : Bool := decide (1 ≤ M.length ∧ M.length ≤ 16) && mtK M M.length M.length
theorem mtK_mono {M : List Md} {n j k : Nat} (hjk : j ≤ k) (h : mtK M n j = false) : mtK M n k = false := by
  induction k with
  | zero => obtain rfl : j = 0 := by omega
            exact h
  | succ k ih =>
    by_cases e : j = k + 1
    · subst e; exact h
    · simp [mtK, ih (by omega)]
theorem mtK_next {M : List Md} {n k : Nat} {d : Md} (h : mtK M n k = true) (hd : M[k]? = some d) (ho : mdOk n k d = true) : mtK M n (k + 1) = true := by simp [mtK, h, hd, ho]
theorem mtK_bad {M : List Md} {n k : Nat} {d : Md} (hd : M[k]? = some d) (ho : mdOk n k d = false) (hk : k < n) : mtK M n n = false :=
  mtK_mono (j := k + 1) hk (by simp [mtK, hd, ho])
theorem mtOk_no {M : List Md} {n : Nat} (hn : M.length = n) (h : mtK M n n = false) : mtOk M = false := by subst hn; simp [mtOk, h]
theorem mtOk_of {M : List Md} {n : Nat} (hn : M.length = n) (h : mtK M n n = true) : mtOk M = decide (1 ≤ n ∧ n ≤ 16) := by subst hn; simp [mtOk, h]
theorem one_cell3 (w : World) (x y z : Value) (t : TypeId) : (w.alloc (.cells #[x, y, z] t)).cell? ⟨w.heap.size, 0, none⟩ = some x ∧ (w.alloc (.cells #[x, y, z] t)).cell? ⟨w.heap.size, 1, none⟩ = some y ∧ (w.alloc (.cells #[x, y, z] t)).cell? ⟨w.heap.size, 2, none⟩ = some z := cells3 (heap_alloc_new w _)
theorem i_within_b (a lo hi : Int) (b : Bool) (w : World) (h : decide (lo ≤ a ∧ a ≤ hi) = b) : Calls Try.prog 17 #[.int .i64 a, .int .i64 lo, .int .i64 hi] w fun e w' => e = .returned (.bool b) ∧ w = w' := by
  subst h
  by_cases hh : lo ≤ a ∧ a ≤ hi
  · rw [decide_eq_true hh]; exact i_within_yes a lo hi _ hh.1 hh.2
  · rw [decide_eq_false hh]; exact i_within_no a lo hi _ (by omega)
set_option maxHeartbeats 2000000 in
theorem i_IsModeTable (A : Option Addr) (n c : Nat) (M : List Md) (B : Nat) (w : World) (h : ModesAt w B A n c M) (hB : B ≤ w.heap.size) :
    Calls Try.prog 8 #[.slice A n c] w fun e w' => e = .returned (.bool (mtOk M)) ∧ Below w.heap.size w w' := by
  have hn := h.2.2.1
  have hl := h.1
  have hNo := Lib.hid (fun hh => mtOk_no (M := M) hl hh)
  have hOf := Lib.hid (fun hh => mtOk_of (M := M) hl hh)
  clear hl
  go_enter Try.func8, Try.ntmps8
  go_wp2
  go_loopw [7] (fun i wr => ∃ k : Nat, k ≤ n ∧ i = .int .i64 k ∧ Hid (mtK M n k = true) ∧ Below w.heap.size w wr) (fun i _ => n - (intOf i).toNat)
  case atStart => exact ⟨0, Nat.zero_le _, rfl, Lib.hid rfl, Below.refl _ _⟩
  case round =>
    obtain ⟨k, hk, rfl, H, hb⟩ := hrel
    have zb := hb.size
    by_cases hlt : k < n
    · obtain ⟨ad, d, Ai, ci, rfl, hab, hd, cs, hI⟩ := h.at_ k hlt
      obtain ⟨c0, c1, c2⟩ := cs.keep fun p hp => hb.cell (by rw [hp]; omega)
      have hb1 := hb.alloc zb (.cells #[.int .i64 d.r, .int .i64 d.s, .slice Ai d.xs.length ci] 36)
      have I1 := hI.below' hB hb1
      have HY := Lib.hid (fun ho => mtK_next H.out hd ho)
      have HN := Lib.hid (fun ho => mtK_bad hd ho hlt)
      have HW1 := Lib.hid (fun b e W => i_within_b d.r 1 8 b W e)
      have HW2 := Lib.hid (fun b e W => i_within_b d.s 1 16 b W e)
      have HR := Lib.hid (i_isRising Ai d.xs.length ci d.xs n B _ I1)
      have HC := Lib.hid (l_Contains Ai d.xs.length ci d.xs k B _ I1)
      have hok : mdOk n k d = (in18 d.r && in116 d.s && riseL d.xs n d.xs.length && !hasK d.xs k d.xs.length) := rfl
      have hok2 := Lib.hid hok
      have e1 := Lib.hid (show decide (1 ≤ d.r ∧ d.r ≤ 8) = in18 d.r from rfl)
      have e2 := Lib.hid (show decide (1 ≤ d.s ∧ d.s ≤ 16) = in116 d.s from rfl)
      have hb2 := Lib.hid hb1
      clear cs hd hI h hok I1 hb1
      generalize mdOk n k d = ok at *
      generalize in18 d.r = b1 at *
      generalize in116 d.s = b2 at *
      generalize riseL d.xs n d.xs.length = b3 at *
      generalize hasK d.xs k d.xs.length = b4 at *
      replace HW1 := Lib.hid (HW1.out b1 e1.out)
      replace HW2 := Lib.hid (HW2.out b2 e2.out)
      clear e1 e2
      go_upto_region 4 with fail
      obtain ⟨q0, q1, q2⟩ := one_cell3 wr (.int .i64 d.r) (.int .i64 d.s) (.slice Ai d.xs.length ci) 36
      generalize World.alloc _ _ = W at *
      generalize wr.heap.size = g at *
      clear c0 c1 c2
      cases b1
      · obtain rfl : ok = false := by rw [hok2.out]; rfl
        have hT := Lib.hid (hNo.out (HN.out rfl))
        go_wp2_with (go_at_call 17; refine (HW1.out _).mono ?_; rintro e w' ⟨rfl, rfl⟩)
        go_ret
        exact ⟨by rw [hT.out]; rfl, hb2.out⟩
      · cases b2
        · obtain rfl : ok = false := by rw [hok2.out]; rfl
          have hT := Lib.hid (hNo.out (HN.out rfl))
          go_wp2_with (go_at_call 17; first | ((with_reducible refine (HW1.out _).mono ?_); rintro e w' ⟨rfl, rfl⟩) | ((with_reducible refine (HW2.out _).mono ?_); rintro e w' ⟨rfl, rfl⟩))
          go_ret
          exact ⟨by rw [hT.out]; rfl, hb2.out⟩
        · cases b3
          · obtain rfl : ok = false := by rw [hok2.out]; rfl
            have hT := Lib.hid (hNo.out (HN.out rfl))
            go_wp2_with (first | (go_at_call 17; first | ((with_reducible refine (HW1.out _).mono ?_); rintro e w' ⟨rfl, rfl⟩) | ((with_reducible refine (HW2.out _).mono ?_); rintro e w' ⟨rfl, rfl⟩)) | (go_at_call 18; refine HR.out.mono ?_; rintro e w' ⟨rfl, rfl⟩))
            go_ret
            exact ⟨by rw [hT.out]; rfl, hb2.out⟩
          · cases b4
            · obtain rfl : ok = true := by rw [hok2.out]; rfl
              have hT := Lib.hid (HY.out rfl)
              go_wp2_with (first | (go_at_call 17; first | ((with_reducible refine (HW1.out _).mono ?_); rintro e w' ⟨rfl, rfl⟩) | ((with_reducible refine (HW2.out _).mono ?_); rintro e w' ⟨rfl, rfl⟩)) | (go_at_call 18; refine HR.out.mono ?_; rintro e w' ⟨rfl, rfl⟩) | (go_at_call 19; refine HC.out.mono ?_; rintro e w' ⟨rfl, rfl⟩))
              go_roundw
              case rel => exact ⟨k + 1, by omega, by go_num, hT, hb2.out⟩
              case measure => simp [intOf]; omega
            · obtain rfl : ok = false := by rw [hok2.out]; rfl
              have hT := Lib.hid (hNo.out (HN.out rfl))
              go_wp2_with (first | (go_at_call 17; first | ((with_reducible refine (HW1.out _).mono ?_); rintro e w' ⟨rfl, rfl⟩) | ((with_reducible refine (HW2.out _).mono ?_); rintro e w' ⟨rfl, rfl⟩)) | (go_at_call 18; refine HR.out.mono ?_; rintro e w' ⟨rfl, rfl⟩) | (go_at_call 19; refine HC.out.mono ?_; rintro e w' ⟨rfl, rfl⟩))
              go_ret
              exact ⟨by rw [hT.out]; rfl, hb2.out⟩
    · obtain rfl : k = n := by omega
      have hT := Lib.hid (hOf.out H.out)
      clear h hNo hOf
      by_cases h1 : 1 ≤ k
      · by_cases h2 : k ≤ 16
        · have d1 : decide ((1 : Int) ≤ k) = true := by simp; omega
          have d2 : decide ((k : Int) ≤ 16) = true := by simp; omega
          have hE := Lib.hid (show decide (1 ≤ k ∧ k ≤ 16) = true by simp; omega)
          go_wp2
          go_ret
          exact ⟨by rw [hT.out, hE.out]; rfl, hb⟩
        · have d1 : decide ((1 : Int) ≤ k) = true := by simp; omega
          have d2 : decide ((k : Int) ≤ 16) = false := by simp; omega
          have hE := Lib.hid (show decide (1 ≤ k ∧ k ≤ 16) = false by simp; omega)
          go_wp2
          go_ret
          exact ⟨by rw [hT.out, hE.out]; rfl, hb⟩
      · obtain rfl : k = 0 := by omega
        go_wp2
        go_ret
        exact ⟨by rw [hT.out]; rfl, hb⟩
set_option maxHeartbeats 2000000 in
theorem s_IsModeTable (A : Option Addr) (n c : Nat) (M : List Md) (B : Nat) (w : World) (h : ModesAt w B A n c M) (hB : B ≤ w.heap.size) :
    Calls Try.prog 6 #[.slice A n c] w fun e w' => e = .returned (.bool (mtOk M)) ∧ Below w.heap.size w w' := by
  have hn := h.2.2.1
  have hl := h.1
  by_cases hr : 1 ≤ n ∧ n ≤ 16
  · have hNo := Lib.hid (fun hh => mtOk_no (M := M) hl hh)
    have hOf := Lib.hid (fun hh => (mtOk_of (M := M) hl hh).trans (decide_eq_true hr))
    have HL := Lib.hid (fun W => s_l01In_b (a := (n : Int)) (lo := 1) (hi := 16) true (by simp; omega) W)
    obtain ⟨r1, r2⟩ := hr
    clear hl
    go_enter Try.func6, Try.ntmps6
    go_wp2_with (go_at_call 13; refine (HL.out _).mono ?_; rintro e w' ⟨rfl, rfl⟩)
    go_loopw [3] (fun i wr => ∃ k : Nat, k ≤ n ∧ i = .int .i64 k ∧ Hid (mtK M n k = true) ∧ Below w.heap.size w wr) (fun i _ => n - (intOf i).toNat)
    case atStart => exact ⟨0, Nat.zero_le _, rfl, Lib.hid rfl, Below.refl _ _⟩
    case round =>
      clear HL
      obtain ⟨k, hk, rfl, H, hb⟩ := hrel
      have zb := hb.size
      by_cases hlt : k < n
      · obtain ⟨ad, d, Ai, ci, rfl, hab, hd, cs, hI⟩ := h.at_ k hlt
        obtain ⟨c0, c1, c2⟩ := cs.keep fun p hp => hb.cell (by rw [hp]; omega)
        have hb1 := hb.alloc zb (.cells #[.int .i64 d.r, .int .i64 d.s, .slice Ai d.xs.length ci] 36)
        have I1 := hI.below' hB hb1
        have HY := Lib.hid (fun ho => mtK_next H.out hd ho)
        have HN := Lib.hid (fun ho => mtK_bad hd ho hlt)
        have HW1 := Lib.hid (fun b e W => s_l01In_b (a := d.r) (lo := 1) (hi := 8) b e W)
        have HW2 := Lib.hid (fun b e W => s_l01In_b (a := d.s) (lo := 1) (hi := 16) b e W)
        have HR := Lib.hid (s_l01Rises Ai d.xs.length ci d.xs n B _ I1 (by omega) (by omega))
        have HC := Lib.hid (fun q => s_l01Has Ai d.xs.length ci d.xs k B _ (I1.drewN q))
        have hok : mdOk n k d = (in18 d.r && in116 d.s && riseL d.xs n d.xs.length && !hasK d.xs k d.xs.length) := rfl
        have hok2 := Lib.hid hok
        have e1 := Lib.hid (show in18 d.r = decide (1 ≤ d.r ∧ d.r ≤ 8) from rfl)
        have e2 := Lib.hid (show in116 d.s = decide (1 ≤ d.s ∧ d.s ≤ 16) from rfl)
        have hb2 := Lib.hid hb1
        clear cs hd hI h hok I1 hb1
        generalize mdOk n k d = ok at *
        generalize in18 d.r = b1 at *
        generalize in116 d.s = b2 at *
        generalize riseL d.xs n d.xs.length = b3 at *
        generalize hasK d.xs k d.xs.length = b4 at *
        replace HW1 := Lib.hid (HW1.out b1 e1.out)
        replace HW2 := Lib.hid (HW2.out b2 e2.out)
        clear e1 e2
        go_upto_region 7 with fail
        obtain ⟨q0, q1, q2⟩ := one_cell3 wr (.int .i64 d.r) (.int .i64 d.s) (.slice Ai d.xs.length ci) 36
        generalize World.alloc _ _ = W at *
        generalize wr.heap.size = g at *
        clear c0 c1 c2
        cases b1
        · obtain rfl : ok = false := by rw [hok2.out]; rfl
          have hT := Lib.hid (hNo.out (HN.out rfl))
          go_wp2_with (go_at_call 13; refine (HW1.out _).mono ?_; rintro e w' ⟨rfl, rfl⟩)
          go_ret
          exact ⟨by rw [hT.out]; rfl, hb2.out⟩
        · cases b2
          · obtain rfl : ok = false := by rw [hok2.out]; rfl
            have hT := Lib.hid (hNo.out (HN.out rfl))
            go_wp2_with (go_at_call 13; first | ((with_reducible refine (HW1.out _).mono ?_); rintro e w' ⟨rfl, rfl⟩) | ((with_reducible refine (HW2.out _).mono ?_); rintro e w' ⟨rfl, rfl⟩))
            go_ret
            exact ⟨by rw [hT.out]; rfl, hb2.out⟩
          · cases b3
            · obtain rfl : ok = false := by rw [hok2.out]; rfl
              have hT := Lib.hid (hNo.out (HN.out rfl))
              go_wp2_with (first | (go_at_call 13; first | ((with_reducible refine (HW1.out _).mono ?_); rintro e w' ⟨rfl, rfl⟩) | ((with_reducible refine (HW2.out _).mono ?_); rintro e w' ⟨rfl, rfl⟩)) | (go_at_call 14; refine HR.out.mono ?_; rintro e w' ⟨rfl, q, rfl⟩))
              go_ret
              exact ⟨by rw [hT.out]; rfl, below_drewN hb2.out q⟩
            · cases b4
              · obtain rfl : ok = true := by rw [hok2.out]; rfl
                have hT := Lib.hid (HY.out rfl)
                go_wp2_with (first | (go_at_call 13; first | ((with_reducible refine (HW1.out _).mono ?_); rintro e w' ⟨rfl, rfl⟩) | ((with_reducible refine (HW2.out _).mono ?_); rintro e w' ⟨rfl, rfl⟩)) | (go_at_call 14; refine HR.out.mono ?_; rintro e w' ⟨rfl, q, rfl⟩) | (go_at_call 15; refine (HC.out q).mono ?_; rintro e w' ⟨rfl, rfl⟩))
                go_roundw
                case rel => exact ⟨k + 1, by omega, by go_num, hT, below_drewN hb2.out q⟩
                case measure => simp [intOf]; omega
              · obtain rfl : ok = false := by rw [hok2.out]; rfl
                have hT := Lib.hid (hNo.out (HN.out rfl))
                go_wp2_with (first | (go_at_call 13; first | ((with_reducible refine (HW1.out _).mono ?_); rintro e w' ⟨rfl, rfl⟩) | ((with_reducible refine (HW2.out _).mono ?_); rintro e w' ⟨rfl, rfl⟩)) | (go_at_call 14; refine HR.out.mono ?_; rintro e w' ⟨rfl, q, rfl⟩) | (go_at_call 15; refine (HC.out q).mono ?_; rintro e w' ⟨rfl, rfl⟩))
                go_ret
                exact ⟨by rw [hT.out]; rfl, below_drewN hb2.out q⟩
      · obtain rfl : k = n := by omega
        have hT := Lib.hid (hOf.out H.out)
        clear h hNo hOf
        go_wp2
        go_ret
        exact ⟨by rw [hT.out]; rfl, hb⟩
  · have hT := Lib.hid (show mtOk M = false by subst hl; simp [mtOk, hr])
    have HL := Lib.hid (fun W => s_l01In_b (a := (n : Int)) (lo := 1) (hi := 16) false (by simp; omega) W)
    clear hl hr h
    go_enter Try.func6, Try.ntmps6
    go_wp2_with (go_at_call 13; refine (HL.out _).mono ?_; rintro e w' ⟨rfl, rfl⟩)
    go_ret
    exact ⟨by rw [hT.out]; rfl, Below.refl _ _⟩
end Go.Proofs.Ytgenfffgenddmaa

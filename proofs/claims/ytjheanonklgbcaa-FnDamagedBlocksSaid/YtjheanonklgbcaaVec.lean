/- Contracts of the functions on membership vectors, of the program and of the reference, over the same plain functions. -/
import Derived.Test.YtjheanonklgbcaaHelp
import Derived.Test.YtjheanonklgbcaaNum
import Derived.Test.YtjheanonklgbcaaSc
namespace Go.Proofs.Ytjheanonklgbcaa
open Go.RowKit
set_option linter.unusedSimpArgs false
set_option linter.unusedVariables false

def allIn (xs : List Int) (lo hi : Int) : Bool := xs.all fun x => decide (lo ≤ x ∧ x ≤ hi)
theorem getD_lt (xs : List Int) (k : Nat) (h : k < xs.length) : xs.getD k 0 = xs[k] := by simp [List.getD_eq_getElem?_getD, List.getElem?_eq_getElem h]
theorem allIn_iff (xs : List Int) (lo hi : Int) : allIn xs lo hi = true ↔ ∀ k, k < xs.length → lo ≤ xs.getD k 0 ∧ xs.getD k 0 ≤ hi := by
  simp only [allIn, List.all_eq_true, decide_eq_true_eq]
  constructor
  · intro h k hk; rw [getD_lt xs k hk]; exact h _ (List.getElem_mem hk)
  · intro h x hx
    obtain ⟨k, hk, rfl⟩ := List.getElem_of_mem hx
    rw [← getD_lt xs k hk]; exact h k hk
theorem allIn_step (xs : List Int) (lo hi : Int) (k : Nat) (hk : k < xs.length) (h : allIn (xs.take k) lo hi = true) (h1 : lo ≤ xs.getD k 0) (h2 : xs.getD k 0 ≤ hi) : allIn (xs.take (k+1)) lo hi = true := by
  rw [take_succ_getD xs k hk]; unfold allIn at *; rw [List.all_append, h]; simp at h1 h2 ⊢; exact ⟨h1, h2⟩
theorem allIn_bad (xs : List Int) (lo hi : Int) (k : Nat) (hk : k < xs.length) (h1 : xs.getD k 0 < lo ∨ hi < xs.getD k 0) : allIn xs lo hi = false := by
  rw [Bool.eq_false_iff]; intro h; have := (allIn_iff xs lo hi).1 h k hk; omega
theorem allIn_all (xs : List Int) (lo hi : Int) (h : allIn (xs.take xs.length) lo hi = true) : allIn xs lo hi = true := by rwa [List.take_length] at h

set_option maxHeartbeats 400000 in
theorem i_allWithin (A : Option Addr) (n c : Nat) (xs : List Int) (lo hi : Int) (B : Nat) (w : World) (h : IntsAt w B A n c xs) :
    Calls Try.prog 93 #[.slice A n c, .int .i64 lo, .int .i64 hi] w fun e w' => e = .returned (.bool (allIn xs lo hi)) ∧ w = w' := by
  obtain ⟨hl, _, hn, _, hc⟩ := h
  have Hl := Lib.hid hl; clear hl
  go_enter Try.func93, Try.ntmps93
  go_wp2
  go_loop [11] (fun i => ∃ k : Nat, k ≤ n ∧ i = .int .i64 k ∧ Hid (allIn (xs.take k) lo hi = true)) (fun i => n - (intOf i).toNat)
  case atStart => exact ⟨0, Nat.zero_le _, rfl, rfl⟩
  case round =>
    obtain ⟨k, hk, rfl, Hall⟩ := hrel
    by_cases hlt : k < n
    · obtain ⟨ad, rfl, _, hcell⟩ := hc (by omega)
      have hx := hcell k hlt
      have hkx : k < xs.length := by rw [Hl.out]; exact hlt
      clear hcell hc
      generalize hX : xs.getD k 0 = x at hx
      have HX := Lib.hid hX; clear hX
      by_cases h1 : lo ≤ x
      · by_cases h2 : x ≤ hi
        · go_wp2
          go_round
          case rel => exact ⟨k + 1, by omega, by go_num, allIn_step xs lo hi k hkx Hall.out (by rw [HX.out]; exact h1) (by rw [HX.out]; exact h2)⟩
          case measure => simp [intOf]; omega
        · go_wp2
          go_ret
          exact ⟨by rw [allIn_bad xs lo hi k hkx (by rw [HX.out]; omega)]; rfl, rfl⟩
      · go_wp2
        go_ret
        exact ⟨by rw [allIn_bad xs lo hi k hkx (by rw [HX.out]; omega)]; rfl, rfl⟩
    · have hkn : k = n := by omega
      have Hkn := Lib.hid hkn; clear hkn hc
      go_wp2
      go_ret
      exact ⟨by rw [allIn_all xs lo hi (by rw [Hl.out, ← Hkn.out]; exact Hall.out)]; rfl, rfl⟩
theorem i_areVectors (A : Option Addr) (n c : Nat) (xs : List Int) (B : Nat) (w : World) (h : IntsAt w B A n c xs) :
    Calls Try.prog 89 #[.slice A n c] w fun e w' => e = .returned (.bool (allIn xs 0 4294967295)) ∧ w = w' := by
  go_enter Try.func89, Try.ntmps89
  go_wp2_with (go_at_call 93; refine (i_allWithin _ _ _ xs _ _ _ _ h).mono ?_; rintro e w' ⟨rfl, rfl⟩)
  go_ret
  exact ⟨rfl, rfl⟩
set_option maxHeartbeats 400000 in
theorem s_l05Vector (A : Option Addr) (n c : Nat) (xs : List Int) (B : Nat) (w : World) (h : IntsAt w B A n c xs) :
    Calls Try.prog 80 #[.slice A n c] w fun e w' => e = .returned (.bool (allIn xs 0 4294967295)) ∧ w = w' := by
  obtain ⟨hl, _, hn, _, hc⟩ := h
  have Hl := Lib.hid hl; clear hl
  go_enter Try.func80, Try.ntmps80
  go_wp2
  go_loop [3] (fun i => ∃ k : Nat, k ≤ n ∧ i = .int .i64 k ∧ Hid (allIn (xs.take k) 0 4294967295 = true)) (fun i => n - (intOf i).toNat)
  case atStart => exact ⟨0, Nat.zero_le _, rfl, rfl⟩
  case round =>
    obtain ⟨k, hk, rfl, Hall⟩ := hrel
    by_cases hlt : k < n
    · obtain ⟨ad, rfl, _, hcell⟩ := hc (by omega)
      have hx := hcell k hlt
      have hkx : k < xs.length := by rw [Hl.out]; exact hlt
      clear hcell hc
      generalize hX : xs.getD k 0 = x at hx
      have HX := Lib.hid hX; clear hX
      by_cases h1 : 0 ≤ x
      · by_cases h2 : x ≤ 4294967295
        · go_wp2
          go_round
          case rel => exact ⟨k + 1, by omega, by go_num, allIn_step xs _ _ k hkx Hall.out (by rw [HX.out]; exact h1) (by rw [HX.out]; exact h2)⟩
          case measure => simp [intOf]; omega
        · go_wp2
          go_ret
          exact ⟨by rw [allIn_bad xs _ _ k hkx (by rw [HX.out]; omega)]; rfl, rfl⟩
      · go_wp2
        go_ret
        exact ⟨by rw [allIn_bad xs _ _ k hkx (by rw [HX.out]; omega)]; rfl, rfl⟩
    · have hkn : k = n := by omega
      have Hkn := Lib.hid hkn; clear hkn hc
      go_wp2
      go_ret
      exact ⟨by rw [allIn_all xs _ _ (by rw [Hl.out, ← Hkn.out]; exact Hall.out)]; rfl, rfl⟩
theorem i_has (m k : Int) (w : World) (h0 : 0 ≤ k) (h1 : k ≤ 31) :
    Calls Try.prog 85 #[.int .i64 m, .int .i64 k] w fun e w' => e = .returned (.bool (hasB m k)) ∧ w = w' := by
  go_enter Try.func85, Try.ntmps85
  go_wp2
  go_ret
  exact ⟨rfl, rfl⟩
theorem s_l05Has (m k : Int) (w : World) (h0 : 0 ≤ k) (h1 : k ≤ 31) :
    Calls Try.prog 87 #[.int .i64 m, .int .i64 k] w fun e w' => e = .returned (.bool (hasB m k)) ∧ w = w' := by
  go_enter Try.func87, Try.ntmps87
  go_wp2
  go_ret
  exact ⟨rfl, rfl⟩
def memList (m : Int) (k : Nat) : List Int := ((List.range k).filter (fun (j : Nat) => hasB m j)).map (fun (j : Nat) => (j : Int))
theorem memList_succ (m : Int) (k : Nat) : memList m (k+1) = if hasB m k = true then memList m k ++ [(k : Int)] else memList m k := by
  unfold memList; rw [List.range_succ, List.filter_append, List.map_append]
  by_cases h : hasB m k = true <;> simp [h]
theorem memList_len (m : Int) (k : Nat) : (memList m k).length ≤ k := by
  unfold memList; rw [List.length_map]; exact Nat.le_trans (List.length_filter_le _ _) (by simp)
set_option maxHeartbeats 400000 in
theorem i_membersOf (m : Int) (w : World) :
    Calls Try.prog 90 #[.int .i64 m] w fun e w' => ∃ v, e = .returned v ∧ IOwn w' w.heap.size v (memList m 32) ∧ Below w.heap.size w w' := by
  go_enter Try.func90, Try.ntmps90
  go_wp2_with fail
  go_loopw [3, 6] (fun v i wr => ∃ k : Nat, k ≤ 32 ∧ i = .int .i64 k ∧ IOwn wr w.heap.size v (memList m k) ∧ Below w.heap.size w wr) (fun _ i _ => 32 - (intOf i).toNat)
  case atStart => exact ⟨0, by omega, rfl, lit_own w [] _ (Nat.le_refl _) (by simp), (Below.refl _ _).alloc (Nat.le_refl _) _⟩
  case round =>
    obtain ⟨k, hk, rfl, hown, hb⟩ := hrel
    have hlen := memList_len m k
    have hsz := hb.size
    by_cases hlt : k < 32
    · by_cases hh : hasB m k = true
      · have hs := memList_succ m k
        rw [if_pos hh] at hs
        have Hs := Lib.hid hs; clear hs
        go_wp2_with (first | (go_at_call 85; refine (i_has m k _ (by omega) (by omega)).mono ?_; rintro e w' ⟨rfl, rfl⟩) | (at_builtin; refine wpList_app _ rfl _ _ 22 rfl w.heap.size Try.underlying22 int_info _ (memList m k) rfl (hown.alloc _) _ _ 1 1 [(k : Int)] rfl (lit_ints wr [(k : Int)] 2 (by simp)) (by omega) (by simp; omega) ?_; intro v' w' hown' hg' _))
        have hb' := app_below' hb (Nat.le_refl _) hsz hown hg'
        go_roundw
        case rel => exact ⟨k + 1, by omega, by go_num, by rw [Hs.out]; exact hown', hb'⟩
        case measure => simp [intOf]; omega
      · have hs := memList_succ m k
        rw [if_neg hh] at hs
        have Hs := Lib.hid hs; clear hs
        have hh' : hasB m k = false := by simpa using hh
        go_wp2_with (go_at_call 85; refine (i_has m k _ (by omega) (by omega)).mono ?_; rintro e w' ⟨rfl, rfl⟩)
        go_roundw
        case rel => exact ⟨k + 1, by omega, by go_num, by rw [Hs.out]; exact hown, hb⟩
        case measure => simp [intOf]; omega
    · have hk' : k = 32 := by omega
      subst hk'
      go_wp2
      go_ret
      exact ⟨_, rfl, hown, hb⟩
def vecB (m : Int) : Bool := decide (0 ≤ m ∧ m ≤ 4294967295)
def membersL (m : Int) : List Int := if vecB m = true then memList m 32 else []
def membersC (m : Int) : Int := if vecB m = true then 0 else 2
theorem membersL_len (m : Int) : (membersL m).length ≤ 32 := by unfold membersL; split <;> simp [memList_len]
theorem i_MembersOf (m : Int) (w : World) :
    Calls Try.prog 51 #[.int .i64 m] w fun e w' => ∃ v, e = .returned (.tuple #[v, .int .i64 (membersC m)]) ∧ IOwn w' w.heap.size v (membersL m) ∧ Below w.heap.size w w' := by
  by_cases h0 : 0 ≤ m
  · by_cases h1 : m ≤ 4294967295
    · have hv : vecB m = true := by simp [vecB, h0, h1]
      have hL : membersL m = memList m 32 := by simp [membersL, hv]
      have hC : membersC m = 0 := by simp [membersC, hv]
      rw [hL, hC]
      clear hL hC hv
      go_enter Try.func51, Try.ntmps51
      go_wp2_with (first | (go_at_call 90; refine (i_membersOf m _).mono ?_; rintro e w' ⟨v, rfl, ho, hb⟩) | go_in)
      go_ret2
      exact ⟨v, rfl, ho, hb⟩
    · have hv : vecB m = false := by simp [vecB]; omega
      have hL : membersL m = [] := by simp [membersL, hv]
      have hC : membersC m = 2 := by simp [membersC, hv]
      rw [hL, hC]
      clear hL hC hv
      go_enter Try.func51, Try.ntmps51
      go_wp2
      go_ret2
      exact ⟨_, rfl, IOwn.nil _ _, Below.refl _ _⟩
  · have hv : vecB m = false := by simp [vecB]; omega
    have hL : membersL m = [] := by simp [membersL, hv]
    have hC : membersC m = 2 := by simp [membersC, hv]
    rw [hL, hC]
    clear hL hC hv
    go_enter Try.func51, Try.ntmps51
    go_wp2
    go_ret2
    exact ⟨_, rfl, IOwn.nil _ _, Below.refl _ _⟩
set_option maxHeartbeats 400000 in
theorem s_MembersOf (m : Int) (w : World) :
    Calls Try.prog 52 #[.int .i64 m] w fun e w' => ∃ v, e = .returned (.tuple #[v, .int .i64 (membersC m)]) ∧ IOwn w' w.heap.size v (membersL m) ∧ Below w.heap.size w w' := by
  have hvb : allIn [m] 0 4294967295 = vecB m := by simp [allIn, vecB]
  have Hvb := Lib.hid hvb; clear hvb
  by_cases hv : vecB m = true
  · have hL : membersL m = memList m 32 := by simp [membersL, hv]
    have hC : membersC m = 0 := by simp [membersC, hv]
    rw [hL, hC]
    clear hL hC
    go_enter Try.func52, Try.ntmps52
    go_wp2_with (go_at_call 80; refine (s_l05Vector _ 1 1 [m] _ _ (lit_ints w [m] 2 (by simp))).mono ?_; rintro e w' ⟨rfl, rfl⟩; rw [Hvb.out])
    go_loopw [4, 5] (fun v i wr => ∃ k : Nat, k ≤ 32 ∧ i = .int .i64 k ∧ IOwn wr w.heap.size v (memList m k) ∧ Below w.heap.size w wr) (fun _ i _ => 32 - (intOf i).toNat)
    case atStart => exact ⟨0, by omega, rfl, lit_own' (w.alloc _) [] _ _ (by simp) (by simp) (by simp), ((Below.refl _ _).alloc (Nat.le_refl _) _).alloc (by simp) _⟩
    case round =>
      obtain ⟨k, hk, rfl, hown, hb⟩ := hrel
      have hlen := memList_len m k
      have hsz := hb.size
      by_cases hlt : k < 32
      · by_cases hh : hasB m k = true
        · have hs := memList_succ m k
          rw [if_pos hh] at hs
          have Hs := Lib.hid hs; clear hs
          go_wp2_with (first | (go_at_call 87; refine (s_l05Has m k _ (by omega) (by omega)).mono ?_; rintro e w' ⟨rfl, rfl⟩) | (at_builtin; refine wpList_app _ rfl _ _ 22 rfl w.heap.size Try.underlying22 int_info _ (memList m k) rfl (hown.alloc _) _ _ 1 1 [(k : Int)] rfl (lit_ints wr [(k : Int)] 2 (by simp)) (by omega) (by simp; omega) ?_; intro v' w' hown' hg' _))
          have hb' := app_below' hb (Nat.le_refl _) hsz hown hg'
          go_roundw
          case rel => exact ⟨k + 1, by omega, by go_num, by rw [Hs.out]; exact hown', hb'⟩
          case measure => simp [intOf]; omega
        · have hs := memList_succ m k
          rw [if_neg hh] at hs
          have Hs := Lib.hid hs; clear hs
          have hh' : hasB m k = false := by simpa using hh
          go_wp2_with (go_at_call 87; refine (s_l05Has m k _ (by omega) (by omega)).mono ?_; rintro e w' ⟨rfl, rfl⟩)
          go_roundw
          case rel => exact ⟨k + 1, by omega, by go_num, by rw [Hs.out]; exact hown, hb⟩
          case measure => simp [intOf]; omega
      · have hk' : k = 32 := by omega
        subst hk'
        go_wp2
        go_ret2
        exact ⟨_, rfl, hown, hb⟩
  · have hv' : vecB m = false := by simpa using hv
    have hL : membersL m = [] := by simp [membersL, hv']
    have hC : membersC m = 2 := by simp [membersC, hv']
    rw [hL, hC]
    clear hL hC
    go_enter Try.func52, Try.ntmps52
    go_wp2_with (go_at_call 80; refine (s_l05Vector _ 1 1 [m] _ _ (lit_ints w [m] 2 (by simp))).mono ?_; rintro e w' ⟨rfl, rfl⟩; rw [Hvb.out])
    go_ret2
    exact ⟨_, rfl, IOwn.nil _ _, (Below.refl _ _).alloc (Nat.le_refl _) _⟩
def cntB (xs : List Int) (k : Nat) : Nat := (xs.filter fun x => hasB x k).length
theorem cntB_le (xs : List Int) (k : Nat) : cntB xs k ≤ xs.length := List.length_filter_le _ _
theorem cntB_succ (xs : List Int) (k q : Nat) (h : q < xs.length) : cntB (xs.take (q+1)) k = if hasB (xs.getD q 0) k = true then cntB (xs.take q) k + 1 else cntB (xs.take q) k := by
  rw [take_succ_getD xs q h]; unfold cntB; rw [List.filter_append]
  by_cases hh : hasB (xs.getD q 0) k = true
  · rw [if_pos hh, List.length_append]; simp only [List.filter_cons, hh, if_true, List.filter_nil, List.length_cons, List.length_nil]
  · rw [if_neg hh, List.length_append]; simp only [List.filter_cons, hh, if_false, List.filter_nil, List.length_nil]; simp
def agr (xs : List Int) : Nat → Nat
  | 0 => 0
  | k + 1 => if 2 * cntB xs k > xs.length then agr xs k + 2 ^ k else agr xs k
theorem agr_lt (xs : List Int) (k : Nat) : agr xs k < 2 ^ k := by
  induction k with
  | zero => simp [agr]
  | succ k ih => rw [agr]; split <;> (rw [Nat.pow_succ]; omega)
def agreedOk (xs : List Int) : Bool := decide (1 ≤ xs.length ∧ xs.length ≤ 32) && allIn xs 0 4294967295
def agreedV (xs : List Int) : Int := if agreedOk xs = true then (agr xs 32 : Int) else 0
def agreedC (xs : List Int) : Int := if agreedOk xs = true then 0 else 2
set_option maxHeartbeats 400000 in
theorem i_AgreedMembers (A : Option Addr) (n c : Nat) (xs : List Int) (B : Nat) (w : World) (h : IntsAt w B A n c xs) :
    Calls Try.prog 48 #[.slice A n c] w fun e w' => e = .returned (.tuple #[.int .i64 (agreedV xs), .int .i64 (agreedC xs)]) ∧ w = w' := by
  have hA := h
  obtain ⟨hl, _, hn, _, hc⟩ := h
  by_cases hok : agreedOk xs = true
  · have hV : agreedV xs = agr xs 32 := by simp [agreedV, hok]
    have hC : agreedC xs = 0 := by simp [agreedC, hok]
    rw [hV, hC]
    clear hV hC
    obtain ⟨⟨h1, h2⟩, h3⟩ : (1 ≤ n ∧ n ≤ 32) ∧ allIn xs 0 4294967295 = true := by rw [← hl]; simpa [agreedOk] using hok
    have Hl := Lib.hid hl; clear hl hok
    go_enter Try.func48, Try.ntmps48
    go_wp2_with (go_at_call 89; refine (i_areVectors _ _ _ xs _ _ hA).mono ?_; rintro e w' ⟨rfl, rfl⟩)
    clear h3 hA
    go_loop [4, 22] (fun a i => ∃ k : Nat, k ≤ 32 ∧ i = .int .i64 k ∧ a = .int .i64 (agr xs k : Nat)) (fun _ i => 32 - (intOf i).toNat)
    case atStart => exact ⟨0, by omega, rfl, rfl⟩
    case round =>
      obtain ⟨k, hk, rfl, rfl⟩ := hrel
      by_cases hlt : k < 32
      · go_wp2
        go_loop [6, 27] (fun a i => ∃ q : Nat, q ≤ n ∧ i = .int .i64 q ∧ a = .int .i64 (cntB (xs.take q) k : Nat)) (fun _ i => n - (intOf i).toNat)
        case atStart => exact ⟨0, by omega, rfl, rfl⟩
        case round =>
          obtain ⟨q, hq, rfl, rfl⟩ := hrel
          by_cases hqn : q < n
          · obtain ⟨ad, rfl, _, hcell⟩ := hc (by omega)
            have hx := hcell q hqn
            have hkx : q < xs.length := by rw [Hl.out]; exact hqn
            have hs := cntB_succ xs k q hkx
            have hcl := cntB_le (xs.take q) k
            have hcl2 : (xs.take q).length ≤ q := List.length_take_le _ _
            clear hcell hc
            by_cases hh : hasB (xs.getD q 0) k = true
            · rw [if_pos hh] at hs
              have Hs := Lib.hid hs; clear hs
              generalize hX : xs.getD q 0 = x at hx hh
              have HX := Lib.hid hX; clear hX
              go_wp2_with (go_at_call 85; refine (i_has x k _ (by omega) (by omega)).mono ?_; rintro e w' ⟨rfl, rfl⟩)
              go_round
              case rel => exact ⟨q + 1, by omega, by go_num, by rw [Hs.out]; go_num⟩
              case measure => simp [intOf]; omega
            · rw [if_neg hh] at hs
              have Hs := Lib.hid hs; clear hs
              generalize hX : xs.getD q 0 = x at hx hh
              have HX := Lib.hid hX; clear hX
              have hh' : hasB x k = false := by simpa using hh
              go_wp2_with (go_at_call 85; refine (i_has x k _ (by omega) (by omega)).mono ?_; rintro e w' ⟨rfl, rfl⟩)
              go_round
              case rel => exact ⟨q + 1, by omega, by go_num, by rw [Hs.out]⟩
              case measure => simp [intOf]; omega
          · have hqq : q = n := by omega
            subst hqq
            have hcl := cntB_le xs k
            have ht : xs.take q = xs := List.take_of_length_le (by rw [Hl.out]; exact Nat.le_refl _)
            have Ht := Lib.hid ht; clear ht hc
            rw [Hl.out] at hcl
            have hag := agr_lt xs k
            have hp := pow_le31 k (by omega)
            by_cases hm : 2 * cntB xs k > q
            · have hs : agr xs (k+1) = agr xs k + 2 ^ k := by rw [agr, if_pos (by rw [Hl.out]; exact hm)]
              have Hs := Lib.hid hs; clear hs
              rw [Ht.out]
              go_wp2
              go_round
              case rel => exact ⟨k + 1, by omega, by go_num, by rw [Hs.out, or_pow _ _ hag (by omega)]⟩
              case measure => simp [intOf]; omega
            · have hs : agr xs (k+1) = agr xs k := by rw [agr, if_neg (by rw [Hl.out]; exact hm)]
              have Hs := Lib.hid hs; clear hs
              rw [Ht.out]
              go_wp2
              go_round
              case rel => exact ⟨k + 1, by omega, by go_num, by rw [Hs.out]⟩
              case measure => simp [intOf]; omega
      · have hk' : k = 32 := by omega
        subst hk'
        go_wp2
        go_ret2
        exact ⟨rfl, rfl⟩
  · have hok' : agreedOk xs = false := by simpa using hok
    have hV : agreedV xs = 0 := by simp [agreedV, hok']
    have hC : agreedC xs = 2 := by simp [agreedC, hok']
    rw [hV, hC]
    clear hV hC hc
    have hbad : n < 1 ∨ 32 < n ∨ (1 ≤ n ∧ n ≤ 32 ∧ allIn xs 0 4294967295 = false) := by
      rcases Nat.lt_or_ge n 1 with h1 | h1
      · exact .inl h1
      · rcases Nat.lt_or_ge 32 n with h2 | h2
        · exact .inr (.inl h2)
        · refine .inr (.inr ⟨h1, h2, ?_⟩)
          simp only [agreedOk, hl, h1, h2, and_self, decide_true, Bool.true_and] at hok'
          exact hok'
    clear hok hok'
    have Hl := Lib.hid hl; clear hl
    rcases hbad with h1 | h1 | ⟨h1, h2, h3⟩
    · go_enter Try.func48, Try.ntmps48
      go_wp2
      go_ret2
      exact ⟨rfl, rfl⟩
    · go_enter Try.func48, Try.ntmps48
      go_wp2
      go_ret2
      exact ⟨rfl, rfl⟩
    · go_enter Try.func48, Try.ntmps48
      go_wp2_with (go_at_call 89; refine (i_areVectors _ _ _ xs _ _ hA).mono ?_; rintro e w' ⟨rfl, rfl⟩)
      go_ret2
      exact ⟨rfl, rfl⟩
theorem s_l05Set (m k : Nat) (b : Bool) (w : World) (hm : m < 4294967296) (hk : k ≤ 31) :
    Calls Try.prog 82 #[.int .i64 m, .int .i64 k, .bool b] w fun e w' => e = .returned (.int .i64 (setN m k b : Nat)) ∧ w = w' := by
  have hh := hasB_nat m k (by omega)
  have hx := xor_pow m k hm hk
  have Hx := Lib.hid hx; clear hx
  by_cases hb : m.testBit k = b
  · have e : setN m k b = m := by unfold setN; rw [if_pos hb]
    have hc : (hasB m k == b) = true := by rw [hh, hb]; simp
    rw [e]
    clear hb hh e
    go_enter Try.func82, Try.ntmps82
    go_wp2_with (go_at_call 87; refine (s_l05Has m k _ (by omega) (by omega)).mono ?_; rintro e w' ⟨rfl, rfl⟩)
    go_ret
    exact ⟨rfl, rfl⟩
  · have e : setN m k b = m ^^^ 2 ^ k := by unfold setN; rw [if_neg hb]
    have hc : (hasB m k == b) = false := by rw [hh]; simpa using hb
    rw [e]
    clear hb hh e
    go_enter Try.func82, Try.ntmps82
    go_wp2_with (go_at_call 87; refine (s_l05Has m k _ (by omega) (by omega)).mono ?_; rintro e w' ⟨rfl, rfl⟩)
    go_ret
    exact ⟨by rw [← Hx.out]; rfl, rfl⟩
set_option maxHeartbeats 400000 in
theorem s_AgreedMembers (A : Option Addr) (n c : Nat) (xs : List Int) (B : Nat) (w : World) (h : IntsAt w B A n c xs) :
    Calls Try.prog 49 #[.slice A n c] w fun e w' => e = .returned (.tuple #[.int .i64 (agreedV xs), .int .i64 (agreedC xs)]) ∧ w = w' := by
  have hA := h
  obtain ⟨hl, _, hn, _, hc⟩ := h
  by_cases hok : agreedOk xs = true
  · have hV : agreedV xs = agr xs 32 := by simp [agreedV, hok]
    have hC : agreedC xs = 0 := by simp [agreedC, hok]
    rw [hV, hC]
    clear hV hC
    obtain ⟨⟨h1, h2⟩, h3⟩ : (1 ≤ n ∧ n ≤ 32) ∧ allIn xs 0 4294967295 = true := by rw [← hl]; simpa [agreedOk] using hok
    have Hl := Lib.hid hl; clear hl hok
    go_enter Try.func49, Try.ntmps49
    go_wp2_with (first | (go_at_call 80; refine (s_l05Vector _ _ _ xs _ _ hA).mono ?_; rintro e w' ⟨rfl, rfl⟩) | go_in)
    clear h3 hA
    go_loop [4, 5] (fun a i => ∃ k : Nat, k ≤ 32 ∧ i = .int .i64 k ∧ a = .int .i64 (agr xs k : Nat)) (fun _ i => 32 - (intOf i).toNat)
    case atStart => exact ⟨0, by omega, rfl, rfl⟩
    case round =>
      obtain ⟨k, hk, rfl, rfl⟩ := hrel
      by_cases hlt : k < 32
      · go_wp2
        go_loop [6, 7] (fun a i => ∃ q : Nat, q ≤ n ∧ i = .int .i64 q ∧ a = .int .i64 (cntB (xs.take q) k : Nat)) (fun _ i => n - (intOf i).toNat)
        case atStart => exact ⟨0, by omega, rfl, rfl⟩
        case round =>
          obtain ⟨q, hq, rfl, rfl⟩ := hrel
          by_cases hqn : q < n
          · obtain ⟨ad, rfl, _, hcell⟩ := hc (by omega)
            have hx := hcell q hqn
            have hkx : q < xs.length := by rw [Hl.out]; exact hqn
            have hs := cntB_succ xs k q hkx
            have hcl := cntB_le (xs.take q) k
            have hcl2 : (xs.take q).length ≤ q := List.length_take_le _ _
            clear hcell hc
            by_cases hh : hasB (xs.getD q 0) k = true
            · rw [if_pos hh] at hs
              have Hs := Lib.hid hs; clear hs
              generalize hX : xs.getD q 0 = x at hx hh
              have HX := Lib.hid hX; clear hX
              go_wp2_with (go_at_call 87; refine (s_l05Has x k _ (by omega) (by omega)).mono ?_; rintro e w' ⟨rfl, rfl⟩)
              go_round
              case rel => exact ⟨q + 1, by omega, by go_num, by rw [Hs.out]; go_num⟩
              case measure => simp [intOf]; omega
            · rw [if_neg hh] at hs
              have Hs := Lib.hid hs; clear hs
              generalize hX : xs.getD q 0 = x at hx hh
              have HX := Lib.hid hX; clear hX
              have hh' : hasB x k = false := by simpa using hh
              go_wp2_with (go_at_call 87; refine (s_l05Has x k _ (by omega) (by omega)).mono ?_; rintro e w' ⟨rfl, rfl⟩)
              go_round
              case rel => exact ⟨q + 1, by omega, by go_num, by rw [Hs.out]⟩
              case measure => simp [intOf]; omega
          · have hqq : q = n := by omega
            subst hqq
            have hcl := cntB_le xs k
            have ht : xs.take q = xs := List.take_of_length_le (by rw [Hl.out]; exact Nat.le_refl _)
            have Ht := Lib.hid ht; clear ht hc
            rw [Hl.out] at hcl
            have hag := agr_lt xs k
            have hp := pow_le31 k (by omega)
            have Hag := Lib.hid hag
            by_cases hm : 2 * cntB xs k > q
            · have hs : agr xs (k+1) = agr xs k + 2 ^ k := by rw [agr, if_pos (by rw [Hl.out]; exact hm)]
              have Hs := Lib.hid hs; clear hs
              rw [Ht.out]
              go_wp2_with (go_at_call 82; refine (s_l05Set _ k _ _ (by omega) (by omega)).mono ?_; rintro e w' ⟨rfl, rfl⟩)
              go_round
              case rel => exact ⟨k + 1, by omega, by go_num, by rw [Hs.out, ← setN_new _ _ Hag.out]; congr 3; simp; omega⟩
              case measure => simp [intOf]; omega
            · have hs : agr xs (k+1) = agr xs k := by rw [agr, if_neg (by rw [Hl.out]; exact hm)]
              have Hs := Lib.hid hs; clear hs
              rw [Ht.out]
              go_wp2_with (go_at_call 82; refine (s_l05Set _ k _ _ (by omega) (by omega)).mono ?_; rintro e w' ⟨rfl, rfl⟩)
              go_round
              case rel => exact ⟨k + 1, by omega, by go_num, by rw [Hs.out]; congr 2; refine Eq.trans ?_ (setN_none _ k Hag.out); congr 1; simp; omega⟩
              case measure => simp [intOf]; omega
      · have hk' : k = 32 := by omega
        subst hk'
        go_wp2
        go_ret2
        exact ⟨rfl, rfl⟩
  · have hok' : agreedOk xs = false := by simpa using hok
    have hV : agreedV xs = 0 := by simp [agreedV, hok']
    have hC : agreedC xs = 2 := by simp [agreedC, hok']
    rw [hV, hC]
    clear hV hC hc
    have hbad : n < 1 ∨ 32 < n ∨ (1 ≤ n ∧ n ≤ 32 ∧ allIn xs 0 4294967295 = false) := by
      rcases Nat.lt_or_ge n 1 with h1 | h1
      · exact .inl h1
      · rcases Nat.lt_or_ge 32 n with h2 | h2
        · exact .inr (.inl h2)
        · refine .inr (.inr ⟨h1, h2, ?_⟩)
          simp only [agreedOk, hl, h1, h2, and_self, decide_true, Bool.true_and] at hok'
          exact hok'
    clear hok hok'
    have Hl := Lib.hid hl; clear hl
    rcases hbad with h1 | h1 | ⟨h1, h2, h3⟩
    · go_enter Try.func49, Try.ntmps49
      go_wp2
      go_ret2
      exact ⟨rfl, rfl⟩
    · go_enter Try.func49, Try.ntmps49
      go_wp2
      go_ret2
      exact ⟨rfl, rfl⟩
    · go_enter Try.func49, Try.ntmps49
      go_wp2_with (first | (go_at_call 80; refine (s_l05Vector _ _ _ xs _ _ hA).mono ?_; rintro e w' ⟨rfl, rfl⟩) | go_in)
      go_ret2
      exact ⟨rfl, rfl⟩
def cliqL (xs : List Int) (v : Int) (k : Nat) : List Int := ((List.range k).filter (fun (j : Nat) => decide (xs.getD j 0 = v))).map (fun (j : Nat) => (j : Int))
theorem cliqL_succ (xs : List Int) (v : Int) (k : Nat) : cliqL xs v (k+1) = if xs.getD k 0 = v then cliqL xs v k ++ [(k : Int)] else cliqL xs v k := by
  unfold cliqL; rw [List.range_succ, List.filter_append, List.map_append]
  by_cases h : xs.getD k 0 = v
  · rw [if_pos h]; simp only [List.filter_cons, h, decide_true, if_true, List.filter_nil, List.map_cons, List.map_nil]
  · rw [if_neg h]; simp only [List.filter_cons, h, decide_false, List.filter_nil, List.map_nil]; simp
theorem cliqL_len (xs : List Int) (v : Int) (k : Nat) : (cliqL xs v k).length ≤ k := by
  unfold cliqL; rw [List.length_map]; exact Nat.le_trans (List.length_filter_le _ _) (by simp)
def cliqOk (xs : List Int) (node : Int) : Bool := decide (xs.length ≤ 32) && allIn xs 0 4294967295 && decide (0 ≤ node ∧ node < xs.length)
def cliqR (xs : List Int) (node : Int) : List Int := if cliqOk xs node = true then cliqL xs (xs.getD node.toNat 0) xs.length else []
def cliqC (xs : List Int) (node : Int) : Int := if cliqOk xs node = true then 0 else 2
theorem cliqR_len (xs : List Int) (node : Int) : (cliqR xs node).length ≤ 32 := by
  unfold cliqR; split
  · rename_i h
    simp only [cliqOk, Bool.and_eq_true, decide_eq_true_eq] at h
    exact Nat.le_trans (cliqL_len _ _ _) h.1.1
  · simp
theorem cliq_bad {xs : List Int} {node : Int} {n : Nat} (hl : xs.length = n) (h : cliqOk xs node = false) :
    32 < n ∨ (n ≤ 32 ∧ allIn xs 0 4294967295 = false) ∨ (n ≤ 32 ∧ allIn xs 0 4294967295 = true ∧ node < 0) ∨ (n ≤ 32 ∧ allIn xs 0 4294967295 = true ∧ 0 ≤ node ∧ (n : Int) ≤ node) := by
  simp only [cliqOk, hl] at h
  by_cases h1 : n ≤ 32
  · by_cases h2 : allIn xs 0 4294967295 = true
    · by_cases h3 : 0 ≤ node
      · refine .inr (.inr (.inr ⟨h1, h2, h3, ?_⟩))
        simp [h1, h2, h3] at h; exact h
      · exact .inr (.inr (.inl ⟨h1, h2, by omega⟩))
    · exact .inr (.inl ⟨h1, by simpa using h2⟩)
  · exact .inl (by omega)
set_option maxHeartbeats 1000000 in
theorem i_CliqueOf (A : Option Addr) (n c : Nat) (xs : List Int) (node : Int) (B : Nat) (w : World) (h : IntsAt w B A n c xs) (hB : B ≤ w.heap.size) :
    Calls Try.prog 41 #[.slice A n c, .int .i64 node] w fun e w' => ∃ v, e = .returned (.tuple #[v, .int .i64 (cliqC xs node)]) ∧ IOwn w' w.heap.size v (cliqR xs node) ∧ Below w.heap.size w w' := by
  have hA := h
  obtain ⟨hl, _, hn, _, hc⟩ := h
  by_cases hok : cliqOk xs node = true
  · have hV : cliqR xs node = cliqL xs (xs.getD node.toNat 0) xs.length := by simp [cliqR, hok]
    have hC : cliqC xs node = 0 := by simp [cliqC, hok]
    rw [hV, hC]
    clear hV hC
    obtain ⟨⟨h1, h2⟩, h3, h4⟩ : (n ≤ 32 ∧ allIn xs 0 4294967295 = true) ∧ 0 ≤ node ∧ node < n := by rw [← hl]; simpa [cliqOk] using hok
    clear hok
    obtain ⟨p, rfl⟩ := Int.eq_ofNat_of_zero_le h3
    rw [Int.toNat_natCast]
    have hp : p < n := by omega
    have Hl := Lib.hid hl; clear hl
    obtain ⟨ad, rfl, hadb, hcell⟩ := hc (by omega)
    clear hc
    have hxp := hcell p hp
    generalize hV : xs.getD p 0 = v at hxp ⊢
    have HV := Lib.hid hV; clear hV
    go_enter Try.func41, Try.ntmps41
    go_wp2_with (first | (go_at_call 89; refine (i_areVectors _ _ _ xs _ _ hA).mono ?_; rintro e w' ⟨rfl, rfl⟩) | (go_at_call 65; first | (refine (i_within_yes _ _ _ _ ?_ ?_).mono ?_; omega; omega; rintro e w' ⟨rfl, rfl⟩) | (refine (i_within_no _ _ _ _ ?_).mono ?_; omega; rintro e w' ⟨rfl, rfl⟩)))
    clear h2
    go_loopw [6, 28] (fun o i wr => ∃ k : Nat, k ≤ n ∧ i = .int .i64 k ∧ IOwn wr w.heap.size o (cliqL xs v k) ∧ Below w.heap.size w wr) (fun _ i _ => n - (intOf i).toNat)
    case atStart => exact ⟨0, by omega, rfl, lit_own w [] _ (Nat.le_refl _) (by simp), (Below.refl _ _).alloc (Nat.le_refl _) _⟩
    case round =>
      obtain ⟨k, hk, rfl, hown, hb⟩ := hrel
      have hlen := cliqL_len xs v k
      have hsz := hb.size
      by_cases hlt : k < n
      · have hxk := hcell k hlt
        have hs := cliqL_succ xs v k
        have hxk' : wr.cell? (ad.add k) = some (.int .i64 (xs.getD k 0)) := by rw [hb.cell (by rw [block_add]; omega)]; exact hxk
        have hxp' : wr.cell? (ad.add p) = some (.int .i64 v) := by rw [hb.cell (by rw [block_add]; omega)]; exact hxp
        clear hxk hxp hcell
        generalize hY : xs.getD k 0 = y at hxk' hs
        have HY := Lib.hid hY; clear hY
        by_cases hyv : y = v
        · rw [if_pos hyv] at hs
          have Hs := Lib.hid hs; clear hs
          have hyv' : (y == v) = true := by simpa using hyv
          have Hyv := Lib.hid hyv; clear hyv
          go_wp2_with (at_builtin; refine wpList_app _ rfl _ _ 22 rfl w.heap.size Try.underlying22 int_info _ (cliqL xs v k) rfl (hown.alloc _) _ _ 1 1 [(k : Int)] rfl (lit_ints wr [(k : Int)] 2 (by simp)) (by omega) (by simp; omega) ?_; intro v' w' hown' hg' _)
          have hb' := app_below' hb (Nat.le_refl _) hsz hown hg'
          go_roundw
          case rel => exact ⟨k + 1, by omega, by go_num, by rw [Hs.out]; exact hown', hb'⟩
          case measure => simp [intOf]; omega
        · rw [if_neg hyv] at hs
          have Hs := Lib.hid hs; clear hs
          have hyv' : (y == v) = false := by simpa using hyv
          have Hyv := Lib.hid hyv; clear hyv
          go_wp2
          go_roundw
          case rel => exact ⟨k + 1, by omega, by go_num, by rw [Hs.out]; exact hown, hb⟩
          case measure => simp [intOf]; omega
      · have hk' : k = n := by omega
        subst hk'
        clear hcell
        go_wp2
        go_ret2
        exact ⟨_, rfl, by rw [Hl.out]; exact hown, hb⟩
  · have hok' : cliqOk xs node = false := by simpa using hok
    have hV : cliqR xs node = [] := by simp [cliqR, hok']
    have hC : cliqC xs node = 2 := by simp [cliqC, hok']
    rw [hV, hC]
    clear hV hC hc
    have hbad := cliq_bad hl hok'
    clear hok hok'
    have Hl := Lib.hid hl; clear hl
    rcases hbad with h1 | ⟨h1, h3⟩ | ⟨h1, h3, h4⟩ | ⟨h1, h3, h4, h5⟩
    all_goals
      go_enter Try.func41, Try.ntmps41
      go_wp2_with (first | (go_at_call 89; refine (i_areVectors _ _ _ xs _ _ hA).mono ?_; rintro e w' ⟨rfl, rfl⟩) | (go_at_call 65; first | (refine (i_within_yes _ _ _ _ ?_ ?_).mono ?_; omega; omega; rintro e w' ⟨rfl, rfl⟩) | (refine (i_within_no _ _ _ _ ?_).mono ?_; omega; rintro e w' ⟨rfl, rfl⟩)))
      go_ret2
      exact ⟨_, rfl, IOwn.nil _ _, Below.refl _ _⟩
set_option maxHeartbeats 1000000 in
theorem s_CliqueOf (A : Option Addr) (n c : Nat) (xs : List Int) (node : Int) (B : Nat) (w : World) (h : IntsAt w B A n c xs) (hB : B ≤ w.heap.size) :
    Calls Try.prog 42 #[.slice A n c, .int .i64 node] w fun e w' => ∃ v, e = .returned (.tuple #[v, .int .i64 (cliqC xs node)]) ∧ IOwn w' w.heap.size v (cliqR xs node) ∧ Below w.heap.size w w' := by
  have hA := h
  obtain ⟨hl, _, hn, _, hc⟩ := h
  by_cases hok : cliqOk xs node = true
  · have hV : cliqR xs node = cliqL xs (xs.getD node.toNat 0) xs.length := by simp [cliqR, hok]
    have hC : cliqC xs node = 0 := by simp [cliqC, hok]
    rw [hV, hC]
    clear hV hC
    obtain ⟨⟨h1, h2⟩, h3, h4⟩ : (n ≤ 32 ∧ allIn xs 0 4294967295 = true) ∧ 0 ≤ node ∧ node < n := by rw [← hl]; simpa [cliqOk] using hok
    clear hok
    obtain ⟨p, rfl⟩ := Int.eq_ofNat_of_zero_le h3
    rw [Int.toNat_natCast]
    have hp : p < n := by omega
    have Hl := Lib.hid hl; clear hl
    obtain ⟨ad, rfl, hadb, hcell⟩ := hc (by omega)
    clear hc
    have hxp := hcell p hp
    generalize hV : xs.getD p 0 = v at hxp ⊢
    have HV := Lib.hid hV; clear hV
    go_enter Try.func42, Try.ntmps42
    go_wp2_with (first | (go_at_call 80; refine (s_l05Vector _ _ _ xs _ _ hA).mono ?_; rintro e w' ⟨rfl, rfl⟩) | (go_at_call 60; first | (refine (s_l01In_yes _ _ _ _ ?_ ?_).mono ?_; omega; omega; rintro e w' ⟨rfl, rfl⟩) | (refine (s_l01In_no _ _ _ _ ?_).mono ?_; omega; rintro e w' ⟨rfl, rfl⟩)))
    clear h2
    go_loopw [6, 7] (fun o i wr => ∃ k : Nat, k ≤ n ∧ i = .int .i64 k ∧ IOwn wr w.heap.size o (cliqL xs v k) ∧ Below w.heap.size w wr) (fun _ i _ => n - (intOf i).toNat)
    case atStart => exact ⟨0, by omega, rfl, lit_own w [] _ (Nat.le_refl _) (by simp), (Below.refl _ _).alloc (Nat.le_refl _) _⟩
    case round =>
      obtain ⟨k, hk, rfl, hown, hb⟩ := hrel
      have hlen := cliqL_len xs v k
      have hsz := hb.size
      by_cases hlt : k < n
      · have hxk := hcell k hlt
        have hs := cliqL_succ xs v k
        have hxk' : wr.cell? (ad.add k) = some (.int .i64 (xs.getD k 0)) := by rw [hb.cell (by rw [block_add]; omega)]; exact hxk
        have hxp' : wr.cell? (ad.add p) = some (.int .i64 v) := by rw [hb.cell (by rw [block_add]; omega)]; exact hxp
        clear hxk hxp hcell
        generalize hY : xs.getD k 0 = y at hxk' hs
        have HY := Lib.hid hY; clear hY
        by_cases hyv : y = v
        · rw [if_pos hyv] at hs
          have Hs := Lib.hid hs; clear hs
          have hyv' : (y == v) = true := by simpa using hyv
          have Hyv := Lib.hid hyv; clear hyv
          have b1 : (k : Int) < n := by omega
          have b2 : (p : Int) < n := by omega
          go_wp2
          go_quiet (fail)
          go_wp2_with (at_builtin; refine wpList_app _ rfl _ _ 22 rfl w.heap.size Try.underlying22 int_info _ (cliqL xs v k) rfl ((hown.drewN _).alloc _) _ _ 1 1 [(k : Int)] rfl (lit_ints (wr.drewN _) [(k : Int)] 2 (by simp)) (by omega) (by simp; omega) ?_; intro v' w' hown' hg' _)
          have hb' := app_below' (below_drewN hb _) (Nat.le_refl _) hsz (hown.drewN _) hg'
          go_roundw
          case rel => exact ⟨k + 1, by omega, by go_num, by rw [Hs.out]; exact hown', hb'⟩
          case measure => simp [intOf]; omega
        · rw [if_neg hyv] at hs
          have Hs := Lib.hid hs; clear hs
          have hyv' : (y == v) = false := by simpa using hyv
          have Hyv := Lib.hid hyv; clear hyv
          go_wp2
          go_quiet (fail)
          go_wp2
          go_roundw
          case rel => exact ⟨k + 1, by omega, by go_num, by rw [Hs.out]; exact hown.drewN _, below_drewN hb _⟩
          case measure => simp [intOf]; omega
      · have hk' : k = n := by omega
        subst hk'
        clear hcell
        go_wp2
        go_ret2
        exact ⟨_, rfl, by rw [Hl.out]; exact hown, hb⟩
  · have hok' : cliqOk xs node = false := by simpa using hok
    have hV : cliqR xs node = [] := by simp [cliqR, hok']
    have hC : cliqC xs node = 2 := by simp [cliqC, hok']
    rw [hV, hC]
    clear hV hC hc
    have hbad := cliq_bad hl hok'
    clear hok hok'
    have Hl := Lib.hid hl; clear hl
    rcases hbad with h1 | ⟨h1, h3⟩ | ⟨h1, h3, h4⟩ | ⟨h1, h3, h4, h5⟩
    all_goals
      go_enter Try.func42, Try.ntmps42
      go_wp2_with (first | (go_at_call 80; refine (s_l05Vector _ _ _ xs _ _ hA).mono ?_; rintro e w' ⟨rfl, rfl⟩) | (go_at_call 60; first | (refine (s_l01In_yes _ _ _ _ ?_ ?_).mono ?_; omega; omega; rintro e w' ⟨rfl, rfl⟩) | (refine (s_l01In_no _ _ _ _ ?_).mono ?_; omega; rintro e w' ⟨rfl, rfl⟩)))
      go_ret2
      exact ⟨_, rfl, IOwn.nil _ _, Below.refl _ _⟩
end Go.Proofs.Ytjheanonklgbcaa

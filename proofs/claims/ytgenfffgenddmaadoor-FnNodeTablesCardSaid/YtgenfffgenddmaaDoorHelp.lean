/- The law's own helpers on []int64: copy, compare, mark, read back. No conditions but the sizes. -/
import Derived.Test.YtgenfffgenddmaaDoorBase
import Derived.Outline
import Derived.BigQuiet
import Derived.Lib.Hide
import Derived.WalkLawsBesides
namespace Go.Proofs.YtgenfffgenddmaaDoor
open Go.RowKit
set_option linter.unusedSimpArgs false
set_option linter.unusedVariables false

theorem take_succ_getD (xs : List Int) (k : Nat) (h : k < xs.length) : xs.take (k+1) = xs.take k ++ [xs.getD k 0] := by
  rw [List.take_succ_eq_append_getElem h]; simp [List.getD_eq_getElem?_getD, List.getElem?_eq_getElem h]

def eqL (xs ys : List Int) : Bool := decide (xs = ys)
theorem eqL_refl (xs : List Int) : eqL xs xs = true := by simp [eqL]
theorem eqL_len {xs ys : List Int} (h : xs.length ≠ ys.length) : eqL xs ys = false := by
  simp only [eqL, decide_eq_false_iff_not]; intro e; exact h (by rw [e])
theorem eqL_at {xs ys : List Int} (k : Nat) (h : xs.getD k 0 ≠ ys.getD k 0) : eqL xs ys = false := by
  simp only [eqL, decide_eq_false_iff_not]; intro e; exact h (by rw [e])
theorem eqL_all {xs ys : List Int} (hl : xs.length = ys.length) (h : xs.take xs.length = ys.take xs.length) : eqL xs ys = true := by
  rw [List.take_length, hl, List.take_length] at h; simp [eqL, h]
set_option maxHeartbeats 400000 in
theorem h_eqInt64S (A A' : Option Addr) (n c n' c' : Nat) (xs ys : List Int) (B B' : Nat) (w : World) (h : IntsAt w B A n c xs) (h' : IntsAt w B' A' n' c' ys) :
    Calls Tryd.prog 16 #[.slice A n c, .slice A' n' c'] w fun e w' => e = .returned (.bool (eqL xs ys)) ∧ ∃ m, w' = w.drewN m := by
  obtain ⟨hl, _, hn, _, hc⟩ := h
  obtain ⟨hl', _, hn', _, hc'⟩ := h'
  by_cases hne : n = n'
  · subst hne
    have Hl := Lib.hid hl; have Hl' := Lib.hid hl'; clear hl hl'
    go_enter Tryd.func16, Tryd.ntmps16
    go_wp2
    go_loopw [5] (fun i wr => ∃ k : Nat, k ≤ n ∧ i = .int .i64 k ∧ Hid (xs.take k = ys.take k) ∧ ∃ m, wr = w.drewN m) (fun i _ => n - (intOf i).toNat)
    case atStart => exact ⟨0, Nat.zero_le _, rfl, rfl, 0, rfl⟩
    case round =>
      obtain ⟨k, hk, rfl, Htk, m, rfl⟩ := hrel
      by_cases hlt : k < n
      · obtain ⟨ad, rfl, _, hcell⟩ := hc (by omega)
        obtain ⟨ad', rfl, _, hcell'⟩ := hc' (by omega)
        have hx := hcell k hlt
        have hy := hcell' k hlt
        clear hcell hcell' hc hc'
        have hkx : k < xs.length := by rw [Hl.out]; exact hlt
        have hky : k < ys.length := by rw [Hl'.out]; exact hlt
        have ex : xs.getD k 0 = xs[k] := by simp [List.getD_eq_getElem?_getD, List.getElem?_eq_getElem hkx]
        have ey : ys.getD k 0 = ys[k] := by simp [List.getD_eq_getElem?_getD, List.getElem?_eq_getElem hky]
        have Ex := Lib.hid ex; have Ey := Lib.hid ey; clear ex ey
        have b0 : (0 : Int) ≤ (k : Int) := by omega
        have b1 : (k : Int) < (n : Int) := by omega
        by_cases hxy : xs.getD k 0 = ys.getD k 0
        · have hxy3 : (xs[k] != ys[k]) = false := by rw [← Ex.out, ← Ey.out]; simpa using hxy
          have Hxy := Lib.hid hxy; clear hxy
          go_wp2
          go_quiet (fail)
          go_wp2
          go_roundw
          case rel => exact ⟨k + 1, by omega, by go_num, (by show _ = _; rw [take_succ_getD xs k hkx, take_succ_getD ys k hky, Htk.out, Hxy.out]), _, by first | rfl | exact World.drewN_drewN _ _ _⟩
          case measure => simp [intOf]; omega
        · have hxy3 : (xs[k] != ys[k]) = true := by rw [← Ex.out, ← Ey.out]; simpa using hxy
          have Hxy := Lib.hid hxy; clear hxy
          go_wp2
          go_quiet (fail)
          go_wp2
          go_ret
          exact ⟨by rw [eqL_at k Hxy.out]; rfl, _, by first | rfl | exact World.drewN_drewN _ _ _⟩
      · have hkn : k = n := by omega
        have Hkn := Lib.hid hkn; clear hkn
        go_wp2
        go_ret
        exact ⟨by rw [eqL_all (by rw [Hl.out, Hl'.out]) (by rw [Hl.out, ← Hkn.out]; exact Htk.out)]; rfl, _, rfl⟩
  · have hb : ((n : Int) != n') = true := by simp; omega
    have Hl := Lib.hid hl; have Hl' := Lib.hid hl'; have Hne := Lib.hid hne; clear hl hl' hc hc' hne
    go_enter Tryd.func16, Tryd.ntmps16
    go_wp2
    go_ret
    exact ⟨by rw [eqL_len (by rw [Hl.out, Hl'.out]; exact Hne.out)]; rfl, 0, rfl⟩
set_option maxHeartbeats 400000 in
theorem h_likeInts (A A' : Option Addr) (n c n' c' : Nat) (xs ys : List Int) (B B' : Nat) (w : World) (h : IntsAt w B A n c xs) (h' : IntsAt w B' A' n' c' ys) :
    Calls Tryd.prog 41 #[.slice A n c, .slice A' n' c'] w fun e w' => e = .returned (.bool (eqL xs ys)) ∧ ∃ m, w' = w.drewN m := by
  obtain ⟨hl, _, hn, _, hc⟩ := h
  obtain ⟨hl', _, hn', _, hc'⟩ := h'
  by_cases hne : n = n'
  · subst hne
    have Hl := Lib.hid hl; have Hl' := Lib.hid hl'; clear hl hl'
    go_enter Tryd.func41, Tryd.ntmps41
    go_wp2
    go_loopw [5] (fun i wr => ∃ k : Nat, k ≤ n ∧ i = .int .i64 k ∧ Hid (xs.take k = ys.take k) ∧ ∃ m, wr = w.drewN m) (fun i _ => n - (intOf i).toNat)
    case atStart => exact ⟨0, Nat.zero_le _, rfl, rfl, 0, rfl⟩
    case round =>
      obtain ⟨k, hk, rfl, Htk, m, rfl⟩ := hrel
      by_cases hlt : k < n
      · obtain ⟨ad, rfl, _, hcell⟩ := hc (by omega)
        obtain ⟨ad', rfl, _, hcell'⟩ := hc' (by omega)
        have hx := hcell k hlt
        have hy := hcell' k hlt
        clear hcell hcell' hc hc'
        have hkx : k < xs.length := by rw [Hl.out]; exact hlt
        have hky : k < ys.length := by rw [Hl'.out]; exact hlt
        have ex : xs.getD k 0 = xs[k] := by simp [List.getD_eq_getElem?_getD, List.getElem?_eq_getElem hkx]
        have ey : ys.getD k 0 = ys[k] := by simp [List.getD_eq_getElem?_getD, List.getElem?_eq_getElem hky]
        have Ex := Lib.hid ex; have Ey := Lib.hid ey; clear ex ey
        have b0 : (0 : Int) ≤ (k : Int) := by omega
        have b1 : (k : Int) < (n : Int) := by omega
        by_cases hxy : xs.getD k 0 = ys.getD k 0
        · have hxy3 : (xs[k] != ys[k]) = false := by rw [← Ex.out, ← Ey.out]; simpa using hxy
          have Hxy := Lib.hid hxy; clear hxy
          go_wp2
          go_quiet (fail)
          go_wp2
          go_roundw
          case rel => exact ⟨k + 1, by omega, by go_num, (by show _ = _; rw [take_succ_getD xs k hkx, take_succ_getD ys k hky, Htk.out, Hxy.out]), _, by first | rfl | exact World.drewN_drewN _ _ _⟩
          case measure => simp [intOf]; omega
        · have hxy3 : (xs[k] != ys[k]) = true := by rw [← Ex.out, ← Ey.out]; simpa using hxy
          have Hxy := Lib.hid hxy; clear hxy
          go_wp2
          go_quiet (fail)
          go_wp2
          go_ret
          exact ⟨by rw [eqL_at k Hxy.out]; rfl, _, by first | rfl | exact World.drewN_drewN _ _ _⟩
      · have hkn : k = n := by omega
        have Hkn := Lib.hid hkn; clear hkn
        go_wp2
        go_ret
        exact ⟨by rw [eqL_all (by rw [Hl.out, Hl'.out]) (by rw [Hl.out, ← Hkn.out]; exact Htk.out)]; rfl, _, rfl⟩
  · have hb : ((n : Int) != n') = true := by simp; omega
    have Hl := Lib.hid hl; have Hl' := Lib.hid hl'; have Hne := Lib.hid hne; clear hl hl' hc hc' hne
    go_enter Tryd.func41, Tryd.ntmps41
    go_wp2
    go_ret
    exact ⟨by rw [eqL_len (by rw [Hl.out, Hl'.out]; exact Hne.out)]; rfl, 0, rfl⟩
theorem to_step (xs : List Int) (k n : Nat) (hn : xs.length = n) (hk : k < n) :
    (xs.take k ++ List.replicate (n - k) 0).set k (xs.getD k 0) = xs.take (k+1) ++ List.replicate (n - (k+1)) 0 := by
  have e : n - k = (n - (k + 1)) + 1 := by omega
  have hl : (xs.take k).length = k := by rw [List.length_take]; omega
  rw [take_succ_getD xs k (by omega), e, List.replicate_succ, List.set_append, hl]
  simp
set_option maxHeartbeats 400000 in
theorem h_toInt64S (A : Option Addr) (n c : Nat) (xs : List Int) (B : Nat) (w : World) (h : IntsAt w B A n c xs) (hB : B ≤ w.heap.size) :
    Calls Tryd.prog 13 #[.slice A n c] w fun e w' => ∃ v, e = .returned v ∧ IOwn w' w.heap.size v xs ∧ Below w.heap.size w w' := by
  obtain ⟨hl, _, hn, _, hc⟩ := h
  have Hl := Lib.hid hl; clear hl
  obtain ⟨i0, hi, hz0, hz1, hz2⟩ := info_parts int_info
  go_enter Tryd.func13, Tryd.ntmps13
  go_wp2_with (at_make; refine wpList_make_full _ rfl _ _ 22 rfl w.heap.size 2 i0 (.int .i64 0) 1 Tryd.underlying22 hi hz0 hz1 .i64 .i64 _ _ n rfl rfl rfl rfl ?c1 ?c2 ?c3 ?_)
  case c1 => rw [hz2]; omega
  case c2 => unfold maxLen; omega
  case c3 => exact Nat.le_refl _
  intro w1 hown0 hg0
  have hb0 : Below w.heap.size w w1 := grown_below hg0 (Nat.le_refl _) (by intro k hk; cases hk)
  have hown1 : w1.ownsRow w.heap.size 2 1 (.slice (some ⟨w.heap.size, 0, none⟩) n n) n ((xs.take 0 ++ List.replicate (n - 0) 0).map (Value.int .i64)) := by
    simpa [toList_madeCells_one, Value.cells] using hown0
  clear hown0 hg0 hi hz0 hz1 hz2
  go_wp2
  go_loopw [4] (fun i wr => ∃ k : Nat, k ≤ n ∧ i = .int .i64 k ∧ wr.ownsRow w.heap.size 2 1 (.slice (some ⟨w.heap.size, 0, none⟩) n n) n ((xs.take k ++ List.replicate (n - k) 0).map (Value.int .i64)) ∧ Below w.heap.size w wr) (fun i _ => n - (intOf i).toNat)
  case atStart => exact ⟨0, Nat.zero_le _, rfl, hown1, hb0⟩
  case round =>
    clear hown1 hb0
    obtain ⟨k, hk, rfl, hown, hb⟩ := hrel
    by_cases hlt : k < n
    · obtain ⟨ad, rfl, hadb, hcell⟩ := hc (by omega)
      have hx : wr.cell? (ad.add k) = some (.int .i64 (xs.getD k 0)) := by rw [hb.cell (by rw [block_add]; omega)]; exact hcell k hlt
      have hol : (xs.take k ++ List.replicate (n - k) (0 : Int)).length = n := by
        have := Hl.out
        simp; omega
      have hoc : wr.cell? ⟨w.heap.size, k, none⟩ = some (.int .i64 ((xs.take k ++ List.replicate (n - k) 0).getD k 0)) := by
        rw [hown.cellAt k (by omega), List.getElem?_map, List.getElem?_eq_getElem (by omega)]
        simp [List.getD_eq_getElem?_getD, List.getElem?_eq_getElem (show k < (xs.take k ++ List.replicate (n - k) (0 : Int)).length by omega)]
      have hof := hown.frozenAt k
      obtain ⟨hst, _⟩ := hown.stored k (.int .i64 (xs.getD k 0))
      rw [← List.map_set, to_step xs k n Hl.out hlt] at hst
      have Hst := Lib.hid hst
      have hb1 : Below w.heap.size w (wr.setCell ⟨w.heap.size, k, none⟩ (.int .i64 (xs.getD k 0))) := hb.setCell (p := ⟨w.heap.size, k, none⟩) (Nat.le_refl _) _
      obtain ⟨x, hxx⟩ : ∃ x, x = xs.getD k 0 := ⟨_, rfl⟩
      obtain ⟨y, hyy⟩ : ∃ y, y = (xs.take k ++ List.replicate (n - k) (0:Int)).getD k 0 := ⟨_, rfl⟩
      rw [← hxx] at hx Hst hb1 
      rw [← hyy] at hoc
      clear hxx hyy hcell hc hown hst hol
      go_wp2
      go_roundw
      case rel => exact ⟨k + 1, by omega, by go_num, Hst.out, hb1⟩
      case measure => simp [intOf]; omega
    · have hkn : k = n := by omega
      subst hkn
      clear hc
      go_wp2
      go_ret
      have e : xs.take k ++ List.replicate (k - k) 0 = xs := by
        rw [List.take_of_length_le (by rw [Hl.out]; exact Nat.le_refl _)]; simp
      rw [e] at hown
      refine ⟨_, rfl, ?_, hb⟩
      unfold IOwn
      rw [Hl.out]
      exact hown
def marksL (n : Nat) (k : Int) : List Int := (List.range n).map fun (i : Nat) => k + (i : Int)
theorem marksL_len (n : Nat) (k : Int) : (marksL n k).length = n := by simp [marksL]
theorem marksL_get (n : Nat) (k : Int) (i : Nat) (h : i < n) : (marksL n k).getD i 0 = k + i := by
  simp [marksL, List.getD_eq_getElem?_getD, h]
theorem mark_step (xs : List Int) (n k : Nat) (m : Int) (hn : xs.length = n) (hk : k < n) :
    (marksL k m ++ xs.drop k).set k (m + k) = marksL (k+1) m ++ xs.drop (k+1) := by
  rw [List.set_append, marksL_len]
  simp only [Nat.lt_irrefl, if_false, Nat.sub_self]
  rw [List.drop_eq_getElem_cons (show k < xs.length by omega), List.set_cons_zero]
  simp [marksL, List.range_succ, List.map_append]
set_option maxHeartbeats 400000 in
theorem h_markInt64S (v : Value) (xs : List Int) (base : Nat) (m : Int) (w : World) (hown : IOwn w base v xs) (hm0 : 0 ≤ m) (hm1 : m ≤ 4294967296) (hxl : xs.length ≤ 16777216) :
    Calls Tryd.prog 17 #[v, .int .i64 m] w fun e w' => e = .returned (.int .i64 (m + xs.length)) ∧ IOwn w' base v (marksL xs.length m) ∧ w.grownBy w' v.ownBlock := by
  obtain ⟨A, c, rfl, hnc, hcm, hA⟩ := hown.form
  obtain ⟨n, hn⟩ : ∃ n, n = xs.length := ⟨_, rfl⟩
  have hown' : w.ownsRow base 2 1 (.slice A n c) n (xs.map (Value.int .i64)) := by rw [hn]; exact hown
  rw [← hn] at hxl ⊢
  have Hn := Lib.hid hn; clear hn hown hnc
  rcases hA with ⟨rfl, hx0, rfl⟩ | ⟨g, rfl, hbg, hgl⟩
  · have hn0 : n = 0 := by rw [Hn.out, hx0]; rfl
    subst hn0
    clear hown' hx0
    go_enter Tryd.func17, Tryd.ntmps17
    go_wp2
    refine wp_loop_rounds 1 ?_; rw [rounds_succ]
    go_wp2
    go_ret
    exact ⟨by simp, by simp [marksL]; exact IOwn.nil _ _, World.grownBy.refl _ _⟩
  · have hown0 : w.ownsRow base 2 1 (.slice (some ⟨g, 0, none⟩) n c) n ((marksL 0 m ++ xs.drop 0).map (Value.int .i64)) := by simpa [marksL] using hown'
    clear hown'
    go_enter Tryd.func17, Tryd.ntmps17
    go_wp2
    go_loopw [1, 5] (fun q i wr => ∃ k : Nat, k ≤ n ∧ i = .int .i64 k ∧ q = .int .i64 (m + k) ∧ wr.ownsRow base 2 1 (.slice (some ⟨g, 0, none⟩) n c) n ((marksL k m ++ xs.drop k).map (Value.int .i64)) ∧ w.grownBy wr (some g)) (fun _ i _ => n - (intOf i).toNat)
    case atStart => exact ⟨0, Nat.zero_le _, rfl, by simp, hown0, World.grownBy.refl _ _⟩
    case round =>
      clear hown0
      obtain ⟨k, hk, rfl, rfl, hown, hgr⟩ := hrel
      by_cases hlt : k < n
      · have hol : (marksL k m ++ xs.drop k).length = n := by
          have := Hn.out
          simp [marksL_len]; omega
        have hoc : wr.cell? ⟨g, k, none⟩ = some (.int .i64 ((marksL k m ++ xs.drop k).getD k 0)) := by
          rw [hown.cellAt k (by omega), List.getElem?_map, List.getElem?_eq_getElem (by omega)]
          simp [List.getD_eq_getElem?_getD, List.getElem?_eq_getElem (show k < (marksL k m ++ xs.drop k).length by omega)]
        have hof := hown.frozenAt k
        obtain ⟨hst, _⟩ := hown.stored k (.int .i64 (m + k))
        rw [← List.map_set, mark_step xs n k m Hn.out.symm hlt] at hst
        have Hst := Lib.hid hst
        have hg1 : w.grownBy (wr.setCell ⟨g, k, none⟩ (.int .i64 (m + k))) (some g) := grown_set (p := ⟨g, k, none⟩) hgr (.inl rfl) _
        obtain ⟨y, hyy⟩ : ∃ y, y = (marksL k m ++ xs.drop k).getD k 0 := ⟨_, rfl⟩
        rw [← hyy] at hoc
        clear hyy hown hst hol
        go_wp2
        go_roundw
        case rel => exact ⟨k + 1, by omega, by go_num, by go_num, Hst.out, hg1⟩
        case measure => simp [intOf]; omega
      · have hkn : k = n := by omega
        subst hkn
        go_wp2
        go_ret
        have e : marksL k m ++ xs.drop k = marksL k m := by rw [List.drop_eq_nil_of_le (by rw [← Hn.out]; exact Nat.le_refl _), List.append_nil]
        rw [e] at hown
        refine ⟨rfl, ?_, hgr⟩
        unfold IOwn
        rw [marksL_len]
        exact hown
set_option maxHeartbeats 400000 in
theorem h_heldInt64S (A : Option Addr) (n c : Nat) (B : Nat) (m : Int) (w : World) (h : IntsAt w B A n c (marksL n m)) (hm0 : 0 ≤ m) (hm1 : m ≤ 4294967296) :
    Calls Tryd.prog 37 #[.slice A n c, .int .i64 m] w fun e w' => e = .returned (.int .i64 (m + n)) ∧ w = w' := by
  obtain ⟨hl, _, hn, _, hc⟩ := h
  clear hl
  go_enter Tryd.func37, Tryd.ntmps37
  go_wp2
  go_loop [1, 5] (fun q i => ∃ k : Nat, k ≤ n ∧ i = .int .i64 k ∧ q = .int .i64 (m + k)) (fun _ i => n - (intOf i).toNat)
  case atStart => exact ⟨0, Nat.zero_le _, rfl, by simp⟩
  case round =>
    obtain ⟨k, hk, rfl, rfl⟩ := hrel
    by_cases hlt : k < n
    · obtain ⟨ad, rfl, _, hcell⟩ := hc (by omega)
      have hx := hcell k hlt
      rw [marksL_get n m k hlt] at hx
      clear hcell hc
      go_wp2
      go_round
      case rel => exact ⟨k + 1, by omega, by go_num, by go_num⟩
      case measure => simp [intOf]; omega
    · have hkn : k = n := by omega
      subst hkn
      clear hc
      go_wp2
      go_ret
      exact ⟨rfl, rfl⟩
end Go.Proofs.YtgenfffgenddmaaDoor

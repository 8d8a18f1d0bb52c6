/- Two tables compared; a list that rises; a list that has a number. -/
import Derived.Test.YtgenfffgenddmaaMod2
import Derived.Deep.RegionHeld3
import Derived.BigQuiet
namespace Go.Proofs.Ytgenfffgenddmaa
open Go.RowKit
set_option linter.unusedSimpArgs false
set_option linter.unusedVariables false
theorem two_new3 (w : World) (a b : Obj) : ∃ W, (w.alloc a).alloc b = W ∧ W.heap[w.heap.size]? = some a ∧ W.heap[w.heap.size + 1]? = some b ∧ Below w.heap.size w W ∧ W.heap.size = w.heap.size + 2 := by
  refine ⟨_, rfl, ?_, ?_, ((Below.refl _ _).alloc (Nat.le_refl _) _).alloc (by simp) _, by simp⟩
  · rw [Below.heap_alloc _ _ _ (by simp)]; exact heap_alloc_new w a
  · have := heap_alloc_new (w.alloc a) b
    simpa using this
set_option maxHeartbeats 1000000 in
theorem h_eqModeInfo (r s : Int) (A A' : Option Addr) (n c c' : Nat) (xs : List Int) (B B' : Nat) (w : World) (h : IntsAt w B A n c xs) (h' : IntsAt w B' A' n c' xs) (hB : B ≤ w.heap.size) (hB' : B' ≤ w.heap.size) :
    Calls Try.prog 20 #[.agg #[.int .i64 r, .int .i64 s, .slice A n c], .agg #[.int .i64 r, .int .i64 s, .slice A' n c']] w fun e w' => e = .returned (.bool true) ∧ Below w.heap.size w w' := by
  obtain ⟨W, hW, R1, R2, BW, zW⟩ := two_new3 w (.cells #[.int .i64 r, .int .i64 s, .slice A n c] 36) (.cells #[.int .i64 r, .int .i64 s, .slice A' n c'] 36)
  have I1 := h.below' hB BW
  have I2 := h'.below' hB' BW
  have he := eqL_refl xs
  have hE := Lib.hid (h_eqInt64S A A' n c n c' xs xs B B' W I1 I2)
  rw [he] at hE
  have HW := Lib.hid hW
  clear hW h h' I1 I2 he
  obtain ⟨c0, c1, c2⟩ := cells3 R1
  obtain ⟨d0, d1, d2⟩ := cells3 R2
  clear R1 R2
  go_enter Try.func20, Try.ntmps20
  go_wp2_with fail
  rw [HW.out]
  refine hE.out.mono ?_
  rintro e w2 ⟨rfl, m, rfl⟩
  go_wp2
  go_ret
  exact ⟨rfl, below_drewN BW m⟩
set_option maxHeartbeats 4000000 in
theorem h_eqModeInfoS (A A' : Option Addr) (n c c' : Nat) (M : List Md) (B B' : Nat) (w : World) (h : ModesAt w B A n c M) (h' : ModesAt w B' A' n c' M) (hB : B ≤ w.heap.size) (hB' : B' ≤ w.heap.size) :
    Calls Try.prog 9 #[.slice A n c, .slice A' n c'] w fun e w' => e = .returned (.bool true) ∧ Below w.heap.size w w' := by
  have hn := h.2.2.1
  go_enter Try.func9, Try.ntmps9
  go_wp2
  go_loopw [5] (fun i wr => ∃ k : Nat, k ≤ n ∧ i = .int .i64 k ∧ Below w.heap.size w wr) (fun i _ => n - (intOf i).toNat)
  case atStart => exact ⟨0, Nat.zero_le _, rfl, Below.refl _ _⟩
  case round =>
    obtain ⟨k, hk, rfl, hb⟩ := hrel
    have zb := hb.size
    by_cases hlt : k < n
    · obtain ⟨ad, d, Ai, ci, rfl, hab, hd, cs, hI⟩ := h.at_ k hlt
      obtain ⟨ad', d', Ai', ci', rfl, hab', hd', cs', hI'⟩ := h'.at_ k hlt
      obtain rfl := Option.some.inj (hd.symm.trans hd')
      obtain ⟨c0, c1, c2⟩ := cs.keep fun p hp => hb.cell (by rw [hp]; omega)
      obtain ⟨d0, d1, d2⟩ := cs'.keep fun p hp => hb.cell (by rw [hp]; omega)
      have I1 := hI.below' hB hb
      have I2 := hI'.below' hB' hb
      have hT := Lib.hid (fun (W : World) (b : Below wr.heap.size wr W) => h_eqModeInfo d.r d.s Ai Ai' d.xs.length ci ci' d.xs B B' W (I1.below' (by omega) b) (I2.below' (by omega) b) (by have := b.size; omega) (by have := b.size; omega))
      clear hI hI' cs cs' hd hd' h h' I1 I2
      have b0 : (0 : Int) ≤ (k : Int) := by omega
      have b1 : (k : Int) < (n : Int) := by omega
      go_wp2_with fail
      go_region_held3 (fun w' => w'.cell? (ad.add (k * 3)) = some (.int .i64 d.r) ∧ w'.cell? ⟨(ad.add (k * 3)).block, (ad.add (k * 3)).off + 1, none⟩ = some (.int .i64 d.s) ∧ w'.cell? ⟨(ad.add (k * 3)).block, (ad.add (k * 3)).off + 2, none⟩ = some (.slice Ai d.xs.length ci) ∧ w'.cell? (ad'.add (k * 3)) = some (.int .i64 d.r) ∧ w'.cell? ⟨(ad'.add (k * 3)).block, (ad'.add (k * 3)).off + 1, none⟩ = some (.int .i64 d.s) ∧ w'.cell? ⟨(ad'.add (k * 3)).block, (ad'.add (k * 3)).off + 2, none⟩ = some (.slice Ai' d.xs.length ci')) (go_keep) (first
        | (go_at_call 20; refine (hT.out _ (Below.refl _ _).drew).mono ?_; rintro e w2 ⟨rfl, b2⟩; have hb2 : Below w.heap.size w w2 := hb.drew.trans (b2.mono zb); have k0 := (b2.cell (show (ad.add (k * 3)).block < _ by rw [block_add]; exact Nat.lt_of_lt_of_le hab (Nat.le_trans hB zb))).trans c0; have k1 := (b2.cell (p := ⟨(ad.add (k * 3)).block, (ad.add (k * 3)).off + 1, none⟩) (show (ad.add (k * 3)).block < _ by rw [block_add]; exact Nat.lt_of_lt_of_le hab (Nat.le_trans hB zb))).trans c1; have k2 := (b2.cell (p := ⟨(ad.add (k * 3)).block, (ad.add (k * 3)).off + 2, none⟩) (show (ad.add (k * 3)).block < _ by rw [block_add]; exact Nat.lt_of_lt_of_le hab (Nat.le_trans hB zb))).trans c2; have l0 := (b2.cell (show (ad'.add (k * 3)).block < _ by rw [block_add]; exact Nat.lt_of_lt_of_le hab' (Nat.le_trans hB' zb))).trans d0; have l1 := (b2.cell (p := ⟨(ad'.add (k * 3)).block, (ad'.add (k * 3)).off + 1, none⟩) (show (ad'.add (k * 3)).block < _ by rw [block_add]; exact Nat.lt_of_lt_of_le hab' (Nat.le_trans hB' zb))).trans d1; have l2 := (b2.cell (p := ⟨(ad'.add (k * 3)).block, (ad'.add (k * 3)).off + 2, none⟩) (show (ad'.add (k * 3)).block < _ by rw [block_add]; exact Nat.lt_of_lt_of_le hab' (Nat.le_trans hB' zb))).trans d2))
      clear c0 c1 c2 d0 d1 d2 hT
      go_wp2
      go_roundw
      case rel => exact ⟨k + 1, by omega, by go_num, hb2⟩
      case measure => simp [intOf]; omega
    · go_wp2
      go_ret
      exact ⟨rfl, hb⟩
/-- Does a list rise, with numbers from 0 to n - 1? -/
def riseL (xs : List Int) (n : Int) : Nat → Bool
  | 0 => true
  | k + 1 => riseL xs n k && decide (0 ≤ xs.getD k 0 ∧ xs.getD k 0 < n) && (k == 0 || decide (xs.getD (k - 1) 0 < xs.getD k 0))
theorem riseL_mono {xs : List Int} {n : Int} {j k : Nat} (hjk : j ≤ k) (h : riseL xs n j = false) : riseL xs n k = false := by
  induction k with
  | zero => obtain rfl : j = 0 := by omega
            exact h
  | succ k ih =>
    by_cases e : j = k + 1
    · subst e; exact h
    · simp [riseL, ih (by omega)]
/-- Has a list a number, among the first k? -/
def hasK (xs : List Int) (x : Int) (k : Nat) : Bool := (xs.take k).contains x
theorem hasK_succ (xs : List Int) (x : Int) (k : Nat) (h : k < xs.length) : hasK xs x (k + 1) = (hasK xs x k || xs.getD k 0 == x) := by
  unfold hasK
  rw [take_succ_getD xs k h, List.contains_eq_any_beq, List.any_append, ← List.contains_eq_any_beq]
  simp only [List.any_cons, List.any_nil, Bool.or_false]
  congr 1
  rw [Bool.eq_iff_iff]; simp; exact eq_comm
theorem hasK_mono {xs : List Int} {x : Int} {j k : Nat} (hjk : j ≤ k) (h : hasK xs x j = true) : hasK xs x k = true := by
  unfold hasK at *
  rw [List.contains_iff_mem] at *
  exact (List.take_subset_take_left xs hjk) h
set_option maxHeartbeats 400000 in
theorem s_l01Has (A : Option Addr) (n c : Nat) (xs : List Int) (x : Int) (B : Nat) (w : World) (h : IntsAt w B A n c xs) :
    Calls Try.prog 15 #[.slice A n c, .int .i64 x] w fun e w' => e = .returned (.bool (hasK xs x n)) ∧ w = w' := by
  have hl := Lib.hid h.len
  have hn := h.small
  go_enter Try.func15, Try.ntmps15
  go_wp2
  go_loop [5] (fun i => ∃ k : Nat, k ≤ n ∧ i = .int .i64 k ∧ Hid (hasK xs x k = false)) (fun i => n - (intOf i).toNat)
  case atStart => exact ⟨0, Nat.zero_le _, rfl, Lib.hid (by simp [hasK])⟩
  case round =>
    obtain ⟨k, hk, rfl, H⟩ := hrel
    by_cases hlt : k < n
    · obtain ⟨ad, rfl, hab, hc⟩ := h.at_ k hlt
      have hs := hasK_succ xs x k (by rw [hl.out]; exact hlt)
      rw [H.out, Bool.false_or] at hs
      generalize xs.getD k 0 = y at hc hs
      by_cases hy : (y == x) = true
      · rw [hy] at hs
        have hT := Lib.hid (hasK_mono (k := n) (by omega) hs)
        clear hs h
        go_wp2
        go_ret
        exact ⟨by rw [hT.out]; rfl, rfl⟩
      · have hy' : (y == x) = false := by simpa using hy
        rw [hy'] at hs
        have hT := Lib.hid hs
        clear hs hy
        go_wp2
        go_round
        case rel => exact ⟨k + 1, by omega, by go_num, hT⟩
        case measure => simp [intOf]; omega
    · obtain rfl : k = n := by omega
      go_wp2
      go_ret
      exact ⟨by rw [H.out]; rfl, rfl⟩
set_option maxHeartbeats 400000 in
theorem l_Index (A : Option Addr) (n c : Nat) (xs : List Int) (x : Int) (B : Nat) (w : World) (h : IntsAt w B A n c xs) :
    Calls Try.prog 25 #[.slice A n c, .int .i64 x] w fun e w' => (∃ i : Int, e = .returned (.int .i64 i) ∧ hasK xs x n = decide (0 ≤ i)) ∧ w = w' := by
  have hl := Lib.hid h.len
  have hn := h.small
  go_enter Try.func25, Try.ntmps25
  go_wp2
  go_loop [8] (fun i => ∃ k : Nat, k ≤ n ∧ i = .int .i64 k ∧ Hid (hasK xs x k = false)) (fun i => n - (intOf i).toNat)
  case atStart => exact ⟨0, Nat.zero_le _, rfl, Lib.hid (by simp [hasK])⟩
  case round =>
    obtain ⟨k, hk, rfl, H⟩ := hrel
    by_cases hlt : k < n
    · obtain ⟨ad, rfl, hab, hc⟩ := h.at_ k hlt
      have hs := hasK_succ xs x k (by rw [hl.out]; exact hlt)
      rw [H.out, Bool.false_or] at hs
      generalize xs.getD k 0 = y at hc hs
      by_cases hy : y = x
      · subst hy
        rw [beq_self_eq_true] at hs
        have hT := Lib.hid (hasK_mono (k := n) (by omega) hs)
        clear hs h
        go_wp2
        go_ret
        exact ⟨⟨k, rfl, by rw [hT.out]; simp⟩, rfl⟩
      · have hy' : (x == y) = false := by simp; exact fun e => hy e.symm
        have hT := Lib.hid (show hasK xs x (k + 1) = false by rw [hs]; simpa using hy)
        clear hs hy
        go_wp2
        go_round
        case rel => exact ⟨k + 1, by omega, by go_num, hT⟩
        case measure => simp [intOf]; omega
    · obtain rfl : k = n := by omega
      go_wp2
      go_ret
      exact ⟨⟨-1, rfl, by rw [H.out]; simp⟩, rfl⟩
theorem l_Contains (A : Option Addr) (n c : Nat) (xs : List Int) (x : Int) (B : Nat) (w : World) (h : IntsAt w B A n c xs) :
    Calls Try.prog 19 #[.slice A n c, .int .i64 x] w fun e w' => e = .returned (.bool (hasK xs x n)) ∧ w = w' := by
  have hT := Lib.hid (l_Index A n c xs x B w h)
  clear h
  go_enter Try.func19, Try.ntmps19
  go_wp2_with fail
  refine hT.out.mono ?_
  rintro e w' ⟨⟨i, rfl, hi⟩, rfl⟩
  have Hi := Lib.hid hi
  clear hi
  go_wp2
  go_ret
  exact ⟨by rw [Hi.out]; rfl, rfl⟩
end Go.Proofs.Ytgenfffgenddmaa

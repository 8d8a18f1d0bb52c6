/- MissedErrors: the program's contract. -/
import Derived.Test.YtecelofoffdjlaaFrm
import Derived.Test.YtecelofoffdjlaaBits3
import Derived.Test.YtecelofoffdjlaaBits4
import Derived.Test.YtecelofoffdjlaaCrcLaw
import Derived.Deep.RegionHeld3
import Derived.BigRegion
namespace Go.Proofs.Ytecelofoffdjlaa
open Go.RowKit
set_option linter.unusedSimpArgs false
set_option linter.unusedVariables false
def kdOk (k : Int) : Bool := decide (0 ≤ k ∧ k ≤ 3)
theorem i_isKind (k : Int) (w : World) : Calls Try.prog 83 #[.int .i64 k] w fun e w' => e = .returned (.bool (kdOk k)) ∧ w = w' := by
  by_cases h : 0 ≤ k ∧ k ≤ 3
  · rw [show kdOk k = true by simp [kdOk, h]]
    obtain ⟨h1, h2⟩ := h
    go_enter Try.func83, Try.ntmps83
    go_wp2_with (go_at_call 84; first | (refine (i_within_yes _ _ _ _ ?_ ?_).mono ?_; omega; omega; rintro e w' ⟨rfl, rfl⟩) | (refine (i_within_no _ _ _ _ ?_).mono ?_; omega; rintro e w' ⟨rfl, rfl⟩))
    go_ret
    exact ⟨rfl, rfl⟩
  · rw [show kdOk k = false by simp [kdOk]; omega]
    have h3 : k < 0 ∨ 3 < k := by omega
    clear h
    go_enter Try.func83, Try.ntmps83
    go_wp2_with (go_at_call 84; refine (i_within_no _ _ _ _ h3).mono ?_; rintro e w' ⟨rfl, rfl⟩)
    go_ret
    exact ⟨rfl, rfl⟩
theorem s_l06Kind (k : Int) (w : World) : Calls Try.prog 78 #[.int .i64 k] w fun e w' => e = .returned (.bool (kdOk k)) ∧ w = w' := by
  by_cases h : 0 ≤ k ∧ k ≤ 3
  · rw [show kdOk k = true by simp [kdOk, h]]
    obtain ⟨h1, h2⟩ := h
    go_enter Try.func78, Try.ntmps78
    go_wp2_with (go_at_call 79; first | (refine (s_l01In_yes _ _ _ _ ?_ ?_).mono ?_; omega; omega; rintro e w' ⟨rfl, rfl⟩) | (refine (s_l01In_no _ _ _ _ ?_).mono ?_; omega; rintro e w' ⟨rfl, rfl⟩))
    go_ret
    exact ⟨rfl, rfl⟩
  · rw [show kdOk k = false by simp [kdOk]; omega]
    have h3 : k < 0 ∨ 3 < k := by omega
    clear h
    go_enter Try.func78, Try.ntmps78
    go_wp2_with (go_at_call 79; refine (s_l01In_no _ _ _ _ h3).mono ?_; rintro e w' ⟨rfl, rfl⟩)
    go_ret
    exact ⟨rfl, rfl⟩
/-- What a list of wrong bits must be. -/
def mlOk (xs : List Int) : Bool := bitsOk xs && decide (32 ≤ xs.length) && decide (xs.length % 8 = 0) && decide (xs.getD 0 0 ≠ 1) && decide (xs.getD 1 0 ≠ 1)
def meC (k : Int) (sa sb : Bool) (xs : List Int) : Int := if (sa && sb) = true then (if kdOk k = true then (if mlOk xs = true then 0 else 3) else 2) else 1
/-- The register after the states' bits. -/
def meR (k : Int) (SA SB : List Int) : Nat := if k = 0 then crcL 0 (sumL SA SB 64) else 0
def meV (k : Int) (sa sb : Bool) (SA SB xs : List Int) : Bool := decide (meC k sa sb xs = 0) && decide (crcL (meR k SA SB) xs = 0)
theorem two_rows (w : World) (x y : Array Value) (t t' : TypeId) :
    ((w.alloc (.cells x t)).alloc (.cells y t')).heap[w.heap.size]? = some (.cells x t (0, 0)) ∧ ((w.alloc (.cells x t)).alloc (.cells y t')).heap[w.heap.size + 1]? = some (.cells y t' (0, 0)) ∧
    Below w.heap.size w ((w.alloc (.cells x t)).alloc (.cells y t')) ∧ ((w.alloc (.cells x t)).alloc (.cells y t')).heap.size = w.heap.size + 2 := by
  have R := heap_alloc_new w (.cells x t)
  have R2 := heap_alloc_new (w.alloc (.cells x t)) (.cells y t')
  rw [World.size_alloc] at R2
  have b := (Below.refl (w.heap.size + 1) (w.alloc (.cells x t))).alloc (by rw [World.size_alloc]; exact Nat.le_refl _) (.cells y t')
  exact ⟨(b.block w.heap.size (by omega)).trans R, R2, ((Below.refl _ _).alloc (Nat.le_refl _) _).alloc (by rw [World.size_alloc]; omega) _, by simp⟩
theorem me1a {k : Int} {sa sb : Bool} {SA SB xs : List Int} (h : sa = false) : meC k sa sb xs = 1 ∧ meV k sa sb SA SB xs = false := by subst h; simp [meC, meV]
theorem me1b {k : Int} {sa sb : Bool} {SA SB xs : List Int} (h : sb = false) : meC k sa sb xs = 1 ∧ meV k sa sb SA SB xs = false := by subst h; simp [meC, meV]
theorem me2 {k : Int} {SA SB xs : List Int} (h : kdOk k = false) : meC k true true xs = 2 ∧ meV k true true SA SB xs = false := by simp [meC, meV, h]
theorem me3 {k : Int} {SA SB xs : List Int} (hk : kdOk k = true) (h : mlOk xs = false) : meC k true true xs = 3 ∧ meV k true true SA SB xs = false := by simp [meC, meV, h, hk]
theorem me0 {k : Int} {SA SB xs : List Int} (hk : kdOk k = true) (h : mlOk xs = true) : meC k true true xs = 0 ∧ meV k true true SA SB xs = decide (((crcL (meR k SA SB) xs : Nat) : Int) = 0) := by simp [meC, meV, h, hk]
theorem int_beq (x : Int) : decide (x = 0) = (x == 0) := by by_cases h : x = 0 <;> simp [h]
theorem ml_no {xs : List Int} (h : xs.getD 0 0 = 1 ∨ xs.getD 1 0 = 1) : mlOk xs = false := by
  cases hm : mlOk xs with
  | false => rfl
  | true =>
    simp only [mlOk, Bool.and_eq_true, decide_eq_true_eq] at hm
    rcases h with h | h
    · exact absurd h hm.1.2
    · exact absurd h hm.2
theorem ml_yes {xs : List Int} (hb : bitsOk xs = true) (h32 : 32 ≤ xs.length) (h8 : xs.length % 8 = 0) (h0 : xs.getD 0 0 ≠ 1) (h1 : xs.getD 1 0 ≠ 1) : mlOk xs = true := by
  simp only [mlOk, Bool.and_eq_true, decide_eq_true_eq]
  exact ⟨⟨⟨⟨hb, h32⟩, h8⟩, h0⟩, h1⟩
theorem i_feed0 (A : Option Addr) (n c : Nat) (xs : List Int) (B : Nat) (w : World) (h : IntsAt w B A n c xs) (hB : B ≤ w.heap.size) (hb : ∀ k, k < n → 0 ≤ xs.getD k 0 ∧ xs.getD k 0 ≤ 1) :
    Calls Try.prog 97 #[.agg #[.int .i64 24, .int .i64 6122955], .int .i64 0, .slice A n c] w fun e w' => e = .returned (.int .i64 (crcL 0 xs : Nat)) ∧ Below w.heap.size w w' :=
  i_feed 0 A n c xs B w h hB (by omega) hb
theorem s_l02Feed0 (A : Option Addr) (n c : Nat) (xs : List Int) (B : Nat) (w : World) (h : IntsAt w B A n c xs) (hB : B ≤ w.heap.size) (hb : ∀ k, k < n → 0 ≤ xs.getD k 0 ∧ xs.getD k 0 ≤ 1) :
    Calls Try.prog 88 #[.agg #[.int .i64 24, .int .i64 6122955], .int .i64 0, .slice A n c] w fun e w' => e = .returned (.int .i64 (crcL 0 xs : Nat)) ∧ Below w.heap.size w w' :=
  s_l02Feed 0 A n c xs B w h hB (by omega) hb
theorem i_stateBits' (t m r s v : Int) (w : World) (h : stOk t m r s v = true) :
    Calls Try.prog 95 #[.agg #[.int .i64 t, .int .i64 m, .int .i64 r, .int .i64 s, .int .i64 v]] w fun e w' => ∃ u, e = .returned u ∧ IOwn w' w.heap.size u (stBits t.toNat m.toNat r.toNat s.toNat v.toNat) ∧ Below w.heap.size w w' := by
  obtain ⟨t0, t1, m0, m1, r0, r1, s0, s1, v0, v1⟩ := stOk_bd h
  obtain ⟨t, rfl⟩ := Int.eq_ofNat_of_zero_le t0
  obtain ⟨m, rfl⟩ := Int.eq_ofNat_of_zero_le m0
  obtain ⟨r, rfl⟩ := Int.eq_ofNat_of_zero_le r0
  obtain ⟨s, rfl⟩ := Int.eq_ofNat_of_zero_le s0
  obtain ⟨v, rfl⟩ := Int.eq_ofNat_of_zero_le v0
  exact i_stateBits t m r s v w (by omega) (by omega) (by omega) (by omega) (by omega)
theorem s_l04Bits' (t m r s v : Int) (w : World) (h : stOk t m r s v = true) :
    Calls Try.prog 92 #[.agg #[.int .i64 t, .int .i64 m, .int .i64 r, .int .i64 s, .int .i64 v]] w fun e w' => ∃ u, e = .returned u ∧ IOwn w' w.heap.size u (stBits t.toNat m.toNat r.toNat s.toNat v.toNat) ∧ Below w.heap.size w w' := by
  obtain ⟨t0, t1, m0, m1, r0, r1, s0, s1, v0, v1⟩ := stOk_bd h
  obtain ⟨t, rfl⟩ := Int.eq_ofNat_of_zero_le t0
  obtain ⟨m, rfl⟩ := Int.eq_ofNat_of_zero_le m0
  obtain ⟨r, rfl⟩ := Int.eq_ofNat_of_zero_le r0
  obtain ⟨s, rfl⟩ := Int.eq_ofNat_of_zero_le s0
  obtain ⟨v, rfl⟩ := Int.eq_ofNat_of_zero_le v0
  exact s_l04Bits t m r s v w (by omega) (by omega) (by omega) (by omega) (by omega)
theorem getD_memS {P : Int → Prop} {xs : List Int} (h : ∀ x ∈ xs, P x) (i : Nat) (hi : i < xs.length) : P (xs.getD i 0) := by
  rw [List.getD_eq_getElem?_getD, List.getElem?_eq_getElem hi]
  exact h _ (List.getElem_mem hi)
theorem bitsOk_st (t m r s v : Nat) : bitsOk (stBits t m r s v) = true := by
  simp only [bitsOk, Bool.and_eq_true, decide_eq_true_eq]
  exact ⟨by rw [stBits_len]; omega, (allIn_iff _ 0 1).2 fun i hi => getD_memS (stBits_mem t m r s v) i hi⟩
set_option maxHeartbeats 4000000 in
theorem i_MissedErrors (k t m r s v t' m' r' s' v' : Int) (A : Option Addr) (n c : Nat) (xs : List Int) (B : Nat) (w : World) (h : IntsAt w B A n c xs) (hB : B ≤ w.heap.size) (hn : n ≤ 1000) :
    Calls Try.prog 39 #[.int .i64 k, .agg #[.int .i64 t, .int .i64 m, .int .i64 r, .int .i64 s, .int .i64 v], .agg #[.int .i64 t', .int .i64 m', .int .i64 r', .int .i64 s', .int .i64 v'], .slice A n c] w fun e w' =>
      e = .returned (.tuple #[.bool (meV k (stOk t m r s v) (stOk t' m' r' s' v') (stBits t.toNat m.toNat r.toNat s.toNat v.toNat) (stBits t'.toNat m'.toNat r'.toNat s'.toNat v'.toNat) xs), .int .i64 (meC k (stOk t m r s v) (stOk t' m' r' s' v') xs)]) ∧ Below w.heap.size w w' := by
  have HA := Lib.hid (fun W => i_IsState t m r s v W)
  have HB := Lib.hid (fun W => i_IsState t' m' r' s' v' W)
  have HSA := Lib.hid (fun W h => i_stateBits' t m r s v W h)
  have HSB := Lib.hid (fun W h => i_stateBits' t' m' r' s' v' W h)
  have HbA := Lib.hid (bitsOk_st t.toNat m.toNat r.toNat s.toNat v.toNat)
  have HbB := Lib.hid (bitsOk_st t'.toNat m'.toNat r'.toNat s'.toNat v'.toNat)
  have lA := Lib.hid (stBits_len t.toNat m.toNat r.toNat s.toNat v.toNat)
  have lB := Lib.hid (stBits_len t'.toNat m'.toNat r'.toNat s'.toNat v'.toNat)
  generalize stBits t.toNat m.toNat r.toNat s.toNat v.toNat = SA at *
  generalize stBits t'.toNat m'.toNat r'.toNat s'.toNat v'.toNat = SB at *
  generalize stOk t m r s v = sa at *
  generalize stOk t' m' r' s' v' = sb at *
  have HK := Lib.hid (fun W => i_isKind k W)
  obtain ⟨RA, RB, BW, zW⟩ := two_rows w #[.int .i64 t, .int .i64 m, .int .i64 r, .int .i64 s, .int .i64 v] #[.int .i64 t', .int .i64 m', .int .i64 r', .int .i64 s', .int .i64 v'] 45 45
  have I0 := h.below' hB BW
  have hl := h.len
  clear h
  go_enter Try.func39, Try.ntmps39
  go_wp2_with fail
  generalize (w.alloc _).alloc _ = W at *
  generalize hg : w.heap.size = g at *
  have HG := Lib.hid hg
  clear hg
  have zW : g + 2 ≤ W.heap.size := by omega
  obtain ⟨d0, d1, d2, d3, d4⟩ := cells5 RA
  obtain ⟨p0, p1, p2, p3, p4⟩ := cells5 RB
  refine (HA.out _).mono ?_
  rintro e w1 ⟨rfl, b1⟩
  have z1 := b1.size
  replace RA := (b1.block g (by omega)).trans RA
  replace RB := (b1.block (g + 1) (by omega)).trans RB
  replace BW := BW.trans (b1.mono (by omega))
  replace I0 := I0.below' (by omega) b1
  clear d0 d1 d2 d3 d4 p0 p1 p2 p3 p4 b1
  obtain ⟨d0, d1, d2, d3, d4⟩ := cells5 RA
  obtain ⟨p0, p1, p2, p3, p4⟩ := cells5 RB
  clear HA
  cases sa
  · obtain ⟨e1, e2⟩ := me1a (k := k) (sa := false) (sb := sb) (SA := SA) (SB := SB) (xs := xs) rfl
    replace e1 := Lib.hid e1
    replace e2 := Lib.hid e2
    go_wp2
    go_ret2
    exact ⟨by rw [e1.out, e2.out] <;> rfl, by rw [HG.out]; exact BW⟩
  · go_wp2_with fail
    refine (HB.out _).mono ?_
    rintro e w2 ⟨rfl, b2⟩
    have z2 := b2.size
    replace RA := (b2.block g (by omega)).trans RA
    replace RB := (b2.block (g + 1) (by omega)).trans RB
    replace BW := BW.trans (b2.mono (by omega))
    replace I0 := I0.below' (by omega) b2
    clear d0 d1 d2 d3 d4 p0 p1 p2 p3 p4 b2
    obtain ⟨d0, d1, d2, d3, d4⟩ := cells5 RA
    obtain ⟨p0, p1, p2, p3, p4⟩ := cells5 RB
    clear HB
    cases sb
    · obtain ⟨e1, e2⟩ := me1b (k := k) (sa := true) (sb := false) (SA := SA) (SB := SB) (xs := xs) rfl
      replace e1 := Lib.hid e1
      replace e2 := Lib.hid e2
      go_wp2
      go_ret2
      exact ⟨by rw [e1.out, e2.out] <;> rfl, by rw [HG.out]; exact BW⟩
    · go_wp2_with fail
      refine (HK.out _).mono ?_
      rintro e w' ⟨rfl, rfl⟩
      clear HK
      cases hk : kdOk k
      · obtain ⟨e1, e2⟩ := me2 (SA := SA) (SB := SB) (xs := xs) hk
        replace e1 := Lib.hid e1
        replace e2 := Lib.hid e2
        clear hk
        go_wp2
        go_ret2
        exact ⟨by rw [e1.out, e2.out] <;> rfl, by rw [HG.out]; exact BW⟩
      · have ME0 := Lib.hid (fun h => me0 (SA := SA) (SB := SB) (xs := xs) hk h)
        have ME3 := Lib.hid (fun h => me3 (SA := SA) (SB := SB) (xs := xs) hk h)
        clear hk
        replace hl := Lib.hid hl
        have HT := Lib.hid (i_IsBits A n c xs B _ I0)
        go_wp2_with fail
        refine HT.out.mono ?_
        rintro e w' ⟨rfl, rfl⟩
        clear HT
        cases hb : bitsOk xs
        · obtain ⟨e1, e2⟩ := ME3.out (by simp [mlOk, hb])
          replace e1 := Lib.hid e1
          replace e2 := Lib.hid e2
          clear hb
          go_wp2
          go_ret2
          exact ⟨by rw [e1.out, e2.out] <;> rfl, by rw [HG.out]; exact BW⟩
        · have Hb := Lib.hid hb
          clear hb
          by_cases h32 : 32 ≤ n
          · have h32' : decide ((n : Int) < 32) = false := by simp; omega
            by_cases h8 : n % 8 = 0
            · obtain ⟨ad, rfl, hab, c0⟩ := I0.at_ 0 (by omega)
              obtain ⟨ad', e', _, c1⟩ := I0.at_ 1 (by omega)
              injection e' with e'
              subst e'
              have h8' : (n : Int) % 8 = 0 := by omega
              have hx0 := (allIn_iff xs 0 1).1 (by have := Hb.out; simp only [bitsOk, Bool.and_eq_true] at this; exact this.2) 0 (by rw [hl.out]; omega)
              have hx1 := (allIn_iff xs 0 1).1 (by have := Hb.out; simp only [bitsOk, Bool.and_eq_true] at this; exact this.2) 1 (by rw [hl.out]; omega)
              have hb01 := Lib.hid ((allIn_iff xs 0 1).1 (by have := Hb.out; simp only [bitsOk, Bool.and_eq_true] at this; exact this.2))
              have MEX := Lib.hid (show (xs.getD 0 0 = 1 ∨ xs.getD 1 0 = 1) → mlOk xs = false from ml_no)
              have MEY := Lib.hid (show xs.getD 0 0 ≠ 1 → xs.getD 1 0 ≠ 1 → mlOk xs = true from ml_yes Hb.out (by rw [hl.out]; exact h32) (by rw [hl.out]; exact h8))
              have c0' : w2.cell? ad = some (.int .i64 (xs.getD 0 0)) := by simpa [Addr.add] using c0
              have c1' : w2.cell? { block := ad.block, off := ad.off + 1 } = some (.int .i64 (xs.getD 1 0)) := by simpa [Addr.add] using c1
              clear c0 c1
              generalize xs.getD 0 0 = x0 at *
              generalize xs.getD 1 0 = x1 at *
              have i0 : (0 : Int) < n := by omega
              have i1 : (1 : Int) < n := by omega
              clear hab h8 h32
              by_cases h0 : x0 = 1
              · obtain ⟨e1, e2⟩ := ME3.out (MEX.out (.inl h0))
                replace e1 := Lib.hid e1
                replace e2 := Lib.hid e2
                subst h0
                go_wp2
                go_ret2
                exact ⟨by rw [e1.out, e2.out] <;> rfl, by rw [HG.out]; exact BW⟩
              · obtain rfl : x0 = 0 := by omega
                by_cases h1 : x1 = 1
                · obtain ⟨e1, e2⟩ := ME3.out (MEX.out (.inr h1))
                  replace e1 := Lib.hid e1
                  replace e2 := Lib.hid e2
                  subst h1
                  go_wp2
                  go_ret2
                  exact ⟨by rw [e1.out, e2.out] <;> rfl, by rw [HG.out]; exact BW⟩
                · obtain ⟨e1, e2⟩ := ME0.out (MEY.out h0 h1)
                  replace e1 := Lib.hid e1
                  replace e2 := Lib.hid e2
                  obtain rfl : x1 = 0 := by omega
                  have hn' : (n : Int) ≤ 1000 := by omega
                  have hb01' : ∀ j, j < n → 0 ≤ xs.getD j 0 ∧ xs.getD j 0 ≤ 1 := fun j hj => hb01.out j (by rw [hl.out]; exact hj)
                  have hb02 := Lib.hid hb01'
                  clear hb01' ME0 ME3 MEX MEY hx0 hx1 h0 h1 hb01
                  by_cases hk0 : k = 0
                  · subst hk0
                    go_wp2_with fail
                    go_region_held3 (fun w' => w'.cell? ⟨g, 0, none⟩ = some (.int .i64 t) ∧ w'.cell? ⟨g, 1, none⟩ = some (.int .i64 m) ∧ w'.cell? ⟨g, 2, none⟩ = some (.int .i64 r) ∧ w'.cell? ⟨g, 3, none⟩ = some (.int .i64 s) ∧ w'.cell? ⟨g, 4, none⟩ = some (.int .i64 v) ∧ w'.cell? ⟨g + 1, 0, none⟩ = some (.int .i64 t') ∧ w'.cell? ⟨g + 1, 1, none⟩ = some (.int .i64 m') ∧ w'.cell? ⟨g + 1, 2, none⟩ = some (.int .i64 r') ∧ w'.cell? ⟨g + 1, 3, none⟩ = some (.int .i64 s') ∧ w'.cell? ⟨g + 1, 4, none⟩ = some (.int .i64 v')) (go_keep) (first
                      | (go_at_call 94; refine (i_SumErrors _ _ 64 _ _ _ _ _ _ _ (i3.below b4) i4 (by omega) (by omega) HbA.out HbB.out).mono ?_; rintro e w5 ⟨u5, rfl, o5, b5⟩; obtain ⟨A5, c5, e5, i5⟩ := o5.ints (by rw [sumL_len]; omega); rw [sumL_len] at e5 i5; subst e5; have z5 := b5.size; have RA5 := (b5.block g (by omega)).trans RA4; have RB5 := (b5.block (g + 1) (by omega)).trans RB4; obtain ⟨d0, d1, d2, d3, d4⟩ := cells5 RA5; obtain ⟨p0, p1, p2, p3, p4⟩ := cells5 RB5)
                      | (go_at_call 95; have chk := i3; clear chk; refine (HSB.out _ (by trivial)).mono ?_; rintro e w4 ⟨u4, rfl, o4, b4⟩; obtain ⟨A4, c4, e4, i4⟩ := o4.ints (by rw [lB.out]; omega); rw [lB.out] at e4 i4; subst e4; have z4 := b4.size; have RA4 := (b4.block g (by omega)).trans RA3; have RB4 := (b4.block (g + 1) (by omega)).trans RB3; obtain ⟨d0, d1, d2, d3, d4⟩ := cells5 RA4; obtain ⟨p0, p1, p2, p3, p4⟩ := cells5 RB4)
                      | (go_at_call 95; refine (HSA.out _ (by trivial)).mono ?_; rintro e w3 ⟨u3, rfl, o3, b3⟩; obtain ⟨A3, c3, e3, i3⟩ := o3.ints (by rw [lA.out]; omega); rw [lA.out] at e3 i3; subst e3; have z3 : w2.heap.size ≤ w3.heap.size := b3.size; have RA3 := (b3.block g (show g < w2.heap.size by omega)).trans RA; have RB3 := (b3.block (g + 1) (show g + 1 < w2.heap.size by omega)).trans RB; obtain ⟨d0, d1, d2, d3, d4⟩ := cells5 RA3; obtain ⟨p0, p1, p2, p3, p4⟩ := cells5 RB3))
                    have BX : Below g w w5 := ((BW.drew.trans (b3.mono (show g ≤ w2.heap.size by omega))).trans (b4.mono (by omega))).trans (b5.mono (by omega))
                    have IX : IntsAt w5 B (some ad) n c xs := ((I0.drew.below' (show B ≤ w2.heap.size by omega) b3).below' (by omega) b4).below' (by omega) b5
                    have zX : g ≤ w5.heap.size := by omega
                    have hD0 := sumL_mem SA SB 64
                    have hDm := Lib.hid (fun j (hj : j < 64) => getD_memS (sumL_mem SA SB 64) j (by rw [sumL_len]; exact hj))
                    have hlt := Lib.hid (crcL_lt (sumL SA SB 64) 0 (by omega))
                    have hmR : meR 0 SA SB = crcL 0 (sumL SA SB 64) := by simp [meR]
                    rw [hmR] at e2
                    generalize sumL SA SB 64 = DD at *
                    clear hmR hD0 BW I0 RA RB RA3 RB3 RA4 RB4 RA5 RB5 b3 b4 b5 o3 o4 o5 i3 i4 d0 d1 d2 d3 d4 p0 p1 p2 p3 p4 c0' c1' HSA HSB HbA HbB lA lB
                    go_wp2_with fail
                    refine (i_StandardCrc _).mono ?_
                    rintro e w6 ⟨rfl, b6⟩
                    have z6 := b6.size
                    have i6 := i5.below b6
                    replace IX := IX.below' (by omega) b6
                    replace BX := BX.trans (b6.mono (by omega))
                    go_wp2_with fail
                    refine (i_feed0 _ _ _ _ _ _ i6 (by omega) hDm.out).mono ?_
                    rintro e w7 ⟨rfl, b7⟩
                    have z7 := b7.size
                    replace IX := IX.below' (by omega) b7
                    replace BX := BX.trans (b7.mono (by omega))
                    generalize crcL 0 DD = reg at *
                    go_wp2_with fail
                    refine (i_StandardCrc _).mono ?_
                    rintro e w8 ⟨rfl, b8⟩
                    have z8 := b8.size
                    replace IX := IX.below' (by omega) b8
                    replace BX := BX.trans (b8.mono (by omega))
                    go_wp2_with fail
                    refine (i_feed reg _ _ _ _ _ _ IX (by omega) hlt.out hb02.out).mono ?_
                    rintro e w9 ⟨rfl, b9⟩
                    replace BX := BX.trans (b9.mono (by omega))
                    go_wp2
                    go_ret2
                    exact ⟨by rw [e1.out, e2.out, int_beq] <;> rfl, by rw [HG.out]; exact BX⟩
                  · have hmR : meR k SA SB = 0 := by simp [meR, hk0]
                    rw [hmR] at e2
                    have hk0' : (k == 0) = false := by simpa using hk0
                    clear hmR hk0
                    go_wp2_with fail
                    refine (i_StandardCrc _).mono ?_
                    rintro e w8 ⟨rfl, b8⟩
                    have z8 := b8.size
                    replace I0 := I0.below' (by omega) b8
                    replace BW := BW.trans (b8.mono (by omega))
                    go_wp2_with fail
                    refine (i_feed0 _ _ _ _ _ _ I0 (by omega) hb02.out).mono ?_
                    rintro e w9 ⟨rfl, b9⟩
                    replace BW := BW.trans (b9.mono (by omega))
                    go_wp2
                    go_ret2
                    exact ⟨by rw [e1.out, e2.out, int_beq] <;> rfl, by rw [HG.out]; exact BW⟩
            · obtain ⟨e1, e2⟩ := ME3.out (by simp [mlOk, hl.out, h8])
              replace e1 := Lib.hid e1
              replace e2 := Lib.hid e2
              have h8' : (n : Int) % 8 ≠ 0 := by omega
              go_wp2
              go_ret2
              exact ⟨by rw [e1.out, e2.out] <;> rfl, by rw [HG.out]; exact BW⟩
          · obtain ⟨e1, e2⟩ := ME3.out (by simp [mlOk, hl.out, h32])
            replace e1 := Lib.hid e1
            replace e2 := Lib.hid e2
            have h32' : decide ((n : Int) < 32) = true := by simp; omega
            go_wp2
            go_ret2
            exact ⟨by rw [e1.out, e2.out] <;> rfl, by rw [HG.out]; exact BW⟩
end Go.Proofs.Ytecelofoffdjlaa

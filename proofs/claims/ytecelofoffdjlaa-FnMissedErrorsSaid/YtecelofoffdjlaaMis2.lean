/- MissedErrors: the reference's contract. -/
import Derived.Test.YtecelofoffdjlaaMis
import Derived.Test.YtecelofoffdjlaaEmp
namespace Go.Proofs.Ytecelofoffdjlaa
open Go.RowKit
set_option linter.unusedSimpArgs false
set_option linter.unusedVariables false
structure MS (g : Nat) (Oa Ob : Obj) (w : World) (B : Nat) (A : Option Addr) (n c : Nat) (xs : List Int) (W : World) : Prop where
  ra : W.heap[g]? = some Oa
  rb : W.heap[g + 1]? = some Ob
  bel : Below g w W
  ints : IntsAt W B A n c xs
section
variable {g B n c : Nat} {Oa Ob O : Obj} {w W W' X : World} {A : Option Addr} {xs : List Int}
theorem MS.next (h : MS g Oa Ob w B A n c xs W) (hB : B ≤ g) (b : Below W.heap.size W W') : MS g Oa Ob w B A n c xs W' :=
  have z := Below.lt_of' h.rb
  ⟨(b.block g (by omega)).trans h.ra, (b.block (g + 1) z).trans h.rb, h.bel.trans (b.mono (by omega)), h.ints.below' (by omega) b⟩
theorem MS.alloc (h : MS g Oa Ob w B A n c xs W) (hB : B ≤ g) (o : Obj) : MS g Oa Ob w B A n c xs (W.alloc o) := h.next hB ((Below.refl _ _).alloc (Nat.le_refl _) o)
theorem MS.drew (h : MS g Oa Ob w B A n c xs W) : MS g Oa Ob w B A n c xs W.drew := ⟨h.ra, h.rb, h.bel.drew, h.ints.drew⟩
theorem zkB {z : Nat} (h : W.heap[z]? = some O) (b : Below W.heap.size W W') : W'.heap[z]? = some O := (b.block z (Below.lt_of' h)).trans h
theorem znB (O : Obj) (b : Below (X.alloc O).heap.size (X.alloc O) W') : W'.heap[X.heap.size]? = some O := (b.block _ (by simp)).trans (heap_alloc_new X O)
theorem znBd (O : Obj) (b : Below (X.alloc O).drew.heap.size (X.alloc O).drew W') : W'.heap[X.heap.size]? = some O := (b.block _ (show X.heap.size < (X.alloc O).heap.size by simp)).trans (heap_alloc_new X O)
theorem IntsAt.nextA (h : IntsAt X X.heap.size A n c xs) (o : Obj) (b : Below (X.alloc o).heap.size (X.alloc o) W') : IntsAt W' X.heap.size A n c xs :=
  (h.alloc (Nat.le_refl _) o).below' (by rw [World.size_alloc]; omega) b
theorem flipL_bits : ∀ (ks xs : List Int), (∀ p, 0 ≤ xs.getD p 0 ∧ xs.getD p 0 ≤ 1) → ∀ p, 0 ≤ (flipL xs ks).getD p 0 ∧ (flipL xs ks).getD p 0 ≤ 1
  | [], xs, h => h
  | k :: ks, xs, h => by
    show ∀ p, 0 ≤ (flipL (xs.set k.toNat (1 - xs.getD k.toNat 0)) ks).getD p 0 ∧ _
    refine flipL_bits ks _ fun p => ?_
    have h1 := h p
    have h2 := h k.toNat
    rw [List.getD_eq_getElem?_getD, List.getElem?_set]
    split
    · split
      · simp only [Option.getD_some]; omega
      · simp
    · rw [← List.getD_eq_getElem?_getD]; exact h1
theorem diffL_mem (xs ys : List Int) (k : Nat) : ∀ x ∈ diffL xs ys k, 0 ≤ x ∧ x < k := by
  intro x hx
  simp only [diffL, List.mem_map, List.mem_filter, List.mem_range] at hx
  obtain ⟨j, ⟨hj, _⟩, rfl⟩ := hx
  omega
theorem zero_bits (n : Nat) : ∀ p, 0 ≤ (List.replicate n (0 : Int)).getD p 0 ∧ (List.replicate n (0 : Int)).getD p 0 ≤ 1 := by
  intro p
  rw [List.getD_eq_getElem?_getD, List.getElem?_replicate]
  split <;> simp
end
set_option maxHeartbeats 4000000 in
theorem s_MissedErrors (k t m r s v t' m' r' s' v' : Int) (A : Option Addr) (n c : Nat) (xs : List Int) (B : Nat) (w : World) (h : IntsAt w B A n c xs) (hB : B ≤ w.heap.size) (hn : n ≤ 1000) :
    Calls Try.prog 38 #[.int .i64 k, .agg #[.int .i64 t, .int .i64 m, .int .i64 r, .int .i64 s, .int .i64 v], .agg #[.int .i64 t', .int .i64 m', .int .i64 r', .int .i64 s', .int .i64 v'], .slice A n c] w fun e w' =>
      e = .returned (.tuple #[.bool (meV k (stOk t m r s v) (stOk t' m' r' s' v') (stBits t.toNat m.toNat r.toNat s.toNat v.toNat) (stBits t'.toNat m'.toNat r'.toNat s'.toNat v'.toNat) xs), .int .i64 (meC k (stOk t m r s v) (stOk t' m' r' s' v') xs)]) ∧ Below w.heap.size w w' := by
  have HA := Lib.hid (fun W => s_IsState t m r s v W)
  have HB := Lib.hid (fun W => s_IsState t' m' r' s' v' W)
  have HSA := Lib.hid (fun W h => s_l04Bits' t m r s v W h)
  have HSB := Lib.hid (fun W h => s_l04Bits' t' m' r' s' v' W h)
  have HbA := Lib.hid (bitsOk_st t.toNat m.toNat r.toNat s.toNat v.toNat)
  have HbB := Lib.hid (bitsOk_st t'.toNat m'.toNat r'.toNat s'.toNat v'.toNat)
  have lA := Lib.hid (stBits_len t.toNat m.toNat r.toNat s.toNat v.toNat)
  have lB := Lib.hid (stBits_len t'.toNat m'.toNat r'.toNat s'.toNat v'.toNat)
  generalize stBits t.toNat m.toNat r.toNat s.toNat v.toNat = SA at *
  generalize stBits t'.toNat m'.toNat r'.toNat s'.toNat v'.toNat = SB at *
  generalize stOk t m r s v = sa at *
  generalize stOk t' m' r' s' v' = sb at *
  have HK := Lib.hid (fun W => s_l06Kind k W)
  obtain ⟨RA, RB, BW, zW⟩ := two_rows w #[.int .i64 t, .int .i64 m, .int .i64 r, .int .i64 s, .int .i64 v] #[.int .i64 t', .int .i64 m', .int .i64 r', .int .i64 s', .int .i64 v'] 45 45
  have I0 := h.below' hB BW
  have hl := h.len
  clear h
  go_enter Try.func38, Try.ntmps38
  go_wp2_with fail
  generalize (w.alloc _).alloc _ = W at *
  generalize hg : w.heap.size = g at *
  have HG := Lib.hid hg
  clear hg
  have zW : g + 2 ≤ W.heap.size := by omega
  obtain ⟨d0, d1, d2, d3, d4⟩ := cells5 RA
  obtain ⟨p0, p1, p2, p3, p4⟩ := cells5 RB
  refine (HA.out _).mono ?_
  rintro e w1 ⟨rfl, b1⟩
  have z1 := b1.size
  replace RA := (b1.block g (by omega)).trans RA
  replace RB := (b1.block (g + 1) (by omega)).trans RB
  replace BW := BW.trans (b1.mono (by omega))
  replace I0 := I0.below' (by omega) b1
  clear d0 d1 d2 d3 d4 p0 p1 p2 p3 p4 b1
  obtain ⟨d0, d1, d2, d3, d4⟩ := cells5 RA
  obtain ⟨p0, p1, p2, p3, p4⟩ := cells5 RB
  clear HA
  cases sa
  · obtain ⟨e1, e2⟩ := me1a (k := k) (sa := false) (sb := sb) (SA := SA) (SB := SB) (xs := xs) rfl
    replace e1 := Lib.hid e1
    replace e2 := Lib.hid e2
    go_wp2
    go_ret2
    exact ⟨by rw [e1.out, e2.out] <;> rfl, by rw [HG.out]; exact BW⟩
  · go_wp2_with fail
    refine (HB.out _).mono ?_
    rintro e w2 ⟨rfl, b2⟩
    have z2 := b2.size
    replace RA := (b2.block g (by omega)).trans RA
    replace RB := (b2.block (g + 1) (by omega)).trans RB
    replace BW := BW.trans (b2.mono (by omega))
    replace I0 := I0.below' (by omega) b2
    clear d0 d1 d2 d3 d4 p0 p1 p2 p3 p4 b2
    obtain ⟨d0, d1, d2, d3, d4⟩ := cells5 RA
    obtain ⟨p0, p1, p2, p3, p4⟩ := cells5 RB
    clear HB
    cases sb
    · obtain ⟨e1, e2⟩ := me1b (k := k) (sa := true) (sb := false) (SA := SA) (SB := SB) (xs := xs) rfl
      replace e1 := Lib.hid e1
      replace e2 := Lib.hid e2
      go_wp2
      go_ret2
      exact ⟨by rw [e1.out, e2.out] <;> rfl, by rw [HG.out]; exact BW⟩
    · go_wp2_with fail
      refine (HK.out _).mono ?_
      rintro e w' ⟨rfl, rfl⟩
      clear HK
      cases hk : kdOk k
      · obtain ⟨e1, e2⟩ := me2 (SA := SA) (SB := SB) (xs := xs) hk
        replace e1 := Lib.hid e1
        replace e2 := Lib.hid e2
        clear hk
        go_wp2
        go_ret2
        exact ⟨by rw [e1.out, e2.out] <;> rfl, by rw [HG.out]; exact BW⟩
      · have ME0 := Lib.hid (fun h => me0 (SA := SA) (SB := SB) (xs := xs) hk h)
        have ME3 := Lib.hid (fun h => me3 (SA := SA) (SB := SB) (xs := xs) hk h)
        clear hk
        replace hl := Lib.hid hl
        have HT := Lib.hid (fun W b => s_IsBits A n c xs B W b)
        cases hb : bitsOk xs
        · rw [hb] at HT
          obtain ⟨e1, e2⟩ := ME3.out (by simp [mlOk, hb])
          clear hb
          replace e1 := Lib.hid e1
          replace e2 := Lib.hid e2
          go_wp2_with fail
          go_quiet ((go_at_call 87; exact quiet_l (HT.out _ (by first | exact I0 | exact I0.drew))))
          go_wp2
          go_ret2
          exact ⟨by rw [e1.out, e2.out] <;> rfl, by rw [HG.out]; exact below_drewN BW _⟩
        · have Hb := Lib.hid hb
          rw [hb] at HT
          clear hb
          by_cases h32 : 32 ≤ n
          · have h32' : decide ((n : Int) < 32) = false := by simp; omega
            by_cases h8 : n % 8 = 0
            · obtain ⟨ad, rfl, hab, c0⟩ := I0.at_ 0 (by omega)
              obtain ⟨ad', e', _, c1⟩ := I0.at_ 1 (by omega)
              injection e' with e'
              subst e'
              have h8' : (n : Int) % 8 = 0 := by omega
              have hx0 := (allIn_iff xs 0 1).1 (by have := Hb.out; simp only [bitsOk, Bool.and_eq_true] at this; exact this.2) 0 (by rw [hl.out]; omega)
              have hx1 := (allIn_iff xs 0 1).1 (by have := Hb.out; simp only [bitsOk, Bool.and_eq_true] at this; exact this.2) 1 (by rw [hl.out]; omega)
              have hb01 := Lib.hid ((allIn_iff xs 0 1).1 (by have := Hb.out; simp only [bitsOk, Bool.and_eq_true] at this; exact this.2))
              have MEX := Lib.hid (show (xs.getD 0 0 = 1 ∨ xs.getD 1 0 = 1) → mlOk xs = false from ml_no)
              have MEY := Lib.hid (show xs.getD 0 0 ≠ 1 → xs.getD 1 0 ≠ 1 → mlOk xs = true from ml_yes Hb.out (by rw [hl.out]; exact h32) (by rw [hl.out]; exact h8))
              have c0' : w2.cell? ad = some (.int .i64 (xs.getD 0 0)) := by simpa [Addr.add] using c0
              have c1' : w2.cell? { block := ad.block, off := ad.off + 1 } = some (.int .i64 (xs.getD 1 0)) := by simpa [Addr.add] using c1
              clear c0 c1
              generalize xs.getD 0 0 = x0 at *
              generalize xs.getD 1 0 = x1 at *
              have i0 : (0 : Int) < n := by omega
              have i1 : (1 : Int) < n := by omega
              have hn' : (n : Int) ≤ 1000 := by omega
              clear hab h8 h32
              by_cases h0 : x0 = 1 ∨ x1 = 1
              · obtain ⟨e1, e2⟩ := ME3.out (MEX.out h0)
                have hgt : decide (0 < x0 + x1) = true := by simp; omega
                replace e1 := Lib.hid e1
                replace e2 := Lib.hid e2
                go_wp2_with fail
                go_quiet ((go_at_call 87; exact quiet_l (HT.out _ (by first | exact I0 | exact I0.drew))))
                go_wp2
                go_ret2
                exact ⟨by rw [e1.out, e2.out] <;> rfl, by rw [HG.out]; exact below_drewN BW _⟩
              · obtain ⟨e1, e2⟩ := ME0.out (MEY.out (by omega) (by omega))
                replace e1 := Lib.hid e1
                replace e2 := Lib.hid e2
                obtain rfl : x0 = 0 := by omega
                obtain rfl : x1 = 0 := by omega
                have hb01' : ∀ j, j < n → 0 ≤ xs.getD j 0 ∧ xs.getD j 0 ≤ 1 := fun j hj => hb01.out j (by rw [hl.out]; exact hj)
                have hb02 := Lib.hid hb01'
                have hlim : decide ((8192 : Int) < (n : Int) + 64) = false := by simp; omega
                clear hb01' ME0 ME3 MEX MEY hx0 hx1 h0 hb01
                go_wp2_with fail
                go_quiet ((go_at_call 87; exact quiet_l (HT.out _ (by first | exact I0 | exact I0.drew))))
                replace I0 := I0.drewN nq
                replace BW := below_drewN BW nq
                have z2' : W.heap.size ≤ (w2.drewN nq).heap.size := Nat.le_trans z1 z2
                clear c0' c1' HT
                have RA' : (w2.drewN nq).heap[g]? = _ := RA
                have RB' : (w2.drewN nq).heap[g + 1]? = _ := RB
                clear RA RB d0 d1 d2 d3 d4 p0 p1 p2 p3 p4
                generalize w2.drewN nq = w3 at *
                by_cases hk0 : k = 0
                · subst hk0
                  have hmk : ∀ w : World, (Instr.makeSlice 29 (.int .i64 64) (.int .i64 64)).run Try.prog w = .ok (.slice (some ⟨w.heap.size, 0, none⟩) 64 64) (w.alloc (.cells ((List.replicate 64 (0 : Int)).map (Value.int .i64)).toArray 2)) := fun w => make_run 64 (by omega) w
                  have HOz : Hid (∀ (W : World) (z : Nat), W.heap[z]? = some (Obj.cells ((List.replicate 64 (0 : Int)).map (Value.int .i64)).toArray 2) → IntsAt W W.heap.size (some ⟨z, 0, none⟩) 64 64 (List.replicate 64 (0 : Int))) := Lib.hid (fun W z hz => by
                    have h := own_of_row 64 (by omega) (Nat.zero_le z) hz
                    obtain ⟨A', c', e, I⟩ := h.ints (by simp)
                    rw [List.length_replicate] at e I
                    injection e with e1 e2 e3
                    subst e1 e3
                    exact I)
                  obtain ⟨O, hO⟩ : ∃ O, O = Obj.cells ((List.replicate 64 (0 : Int)).map (Value.int .i64)).toArray 2 := ⟨_, rfl⟩
                  rw [← hO] at hmk HOz
                  clear hO
                  have hkk := Lib.hid (fun j (hj : j < (diffL SA SB 64).length) => getD_memS (diffL_mem SA SB 64) j hj)
                  have hbb := Lib.hid (fun j (hj : j < (diffL SA SB 64).length) => flipL_bits ((diffL SA SB 64).take j) (List.replicate 64 (0 : Int)) (zero_bits 64))
                  have HFL := Lib.hid (show flipL (List.replicate 64 (0 : Int)) (diffL SA SB 64) = sumL SA SB 64 by have := flip_diff SA SB 64 64 (Nat.le_refl _); simpa using this)
                  have hDm := Lib.hid (fun j (hj : j < 64) => getD_memS (sumL_mem SA SB 64) j (by rw [sumL_len]; exact hj))
                  have hlt := Lib.hid (crcL_lt (sumL SA SB 64) 0 (by omega))
                  have hmR : meR 0 SA SB = crcL 0 (sumL SA SB 64) := by simp [meR]
                  rw [hmR] at e2
                  clear hmR
                  have M3 : MS g _ _ w B (some ad) n c xs w3 := ⟨RA', RB', BW, I0⟩
                  obtain ⟨d0, d1, d2, d3, d4⟩ := cells5 RA'
                  obtain ⟨p0, p1, p2, p3, p4⟩ := cells5 RB'
                  clear RA' RB' BW I0
                  go_wp2_with fail
                  go_region_held3 (fun w' => w'.cell? ⟨g, 0, none⟩ = some (.int .i64 t) ∧ w'.cell? ⟨g, 1, none⟩ = some (.int .i64 m) ∧ w'.cell? ⟨g, 2, none⟩ = some (.int .i64 r) ∧ w'.cell? ⟨g, 3, none⟩ = some (.int .i64 s) ∧ w'.cell? ⟨g, 4, none⟩ = some (.int .i64 v) ∧ w'.cell? ⟨g + 1, 0, none⟩ = some (.int .i64 t') ∧ w'.cell? ⟨g + 1, 1, none⟩ = some (.int .i64 m') ∧ w'.cell? ⟨g + 1, 2, none⟩ = some (.int .i64 r') ∧ w'.cell? ⟨g + 1, 3, none⟩ = some (.int .i64 s') ∧ w'.cell? ⟨g + 1, 4, none⟩ = some (.int .i64 v')) (go_keep) (first
                      | (go_at_call 88; refine (s_l02Feed0 A8 64 c8 _ _ _ i8 (Nat.le_refl _) hDm.out).mono ?_; rintro e w9 ⟨rfl, b9⟩; have M9 := MS.next M8 hB b9; obtain ⟨d0, d1, d2, d3, d4⟩ := cells5 (MS.ra M9); obtain ⟨p0, p1, p2, p3, p4⟩ := cells5 (MS.rb M9))
                      | (go_at_call 90; (first | (with_reducible have ZI := HOz.out _ _ ZR; have I7 := i7) | (have ZI := HOz.out _ _ (heap_alloc_new w7 O); have I7 := i7.alloc (Nat.le_refl _) O)); refine (s_l01Flip _ A7 64 _ _ _ _ _ _ _ _ ZI I7 (Nat.le_refl _) (by (try rw [World.size_alloc]); omega) hkk.out hbb.out).mono ?_; rintro e w8 ⟨u8, rfl, o8, b8⟩; obtain ⟨A8, c8, e8, i8⟩ := o8.ints (by rw [HFL.out, sumL_len]; omega); rw [HFL.out, sumL_len] at e8; rw [HFL.out, sumL_len] at i8; subst e8; have M8 := MS.next (by first | with_reducible exact M7 | with_reducible exact MS.drew M7 | with_reducible exact MS.alloc M7 hB _ | with_reducible exact MS.alloc (MS.drew M7) hB _) hB b8; obtain ⟨d0, d1, d2, d3, d4⟩ := cells5 (MS.ra M8); obtain ⟨p0, p1, p2, p3, p4⟩ := cells5 (MS.rb M8))
                      | (go_at_call 91; refine (s_l01Differ A5 A6 64 c5 c6 SA SB _ _ _ (by first | with_reducible exact j5 | with_reducible exact IntsAt.alloc j5 (by omega) _) (by first | with_reducible exact i6 | with_reducible exact IntsAt.alloc i6 (Nat.le_refl _) _) (by (try rw [World.size_alloc]); omega) (by (try rw [World.size_alloc]); omega)).mono ?_; rintro e w7 ⟨u7, rfl, o7, b7⟩; obtain ⟨A7, c7, e7, i7⟩ := o7.ints (by have := diffL_len SA SB 64; omega); subst e7; have M7 := MS.next (by first | with_reducible exact M6 | with_reducible exact MS.drew M6 | with_reducible exact MS.alloc M6 hB _ | with_reducible exact MS.alloc (MS.drew M6) hB _) hB b7; (first | (with_reducible have ZR := zkB ZR b7) | (with_reducible have ZR := znB O b7) | skip); obtain ⟨d0, d1, d2, d3, d4⟩ := cells5 (MS.ra M7); obtain ⟨p0, p1, p2, p3, p4⟩ := cells5 (MS.rb M7))
                      | (go_at_call 92; have chk := i5; clear chk; refine (HSB.out _ (by trivial)).mono ?_; rintro e w6 ⟨u6, rfl, o6, b6⟩; obtain ⟨A6, c6, e6, i6⟩ := o6.ints (by rw [lB.out]; omega); rw [lB.out] at e6 i6; subst e6; have M6 := MS.next (by first | with_reducible exact M5 | with_reducible exact MS.drew M5 | with_reducible exact MS.alloc M5 hB _ | with_reducible exact MS.alloc (MS.drew M5) hB _) hB b6; (first | (with_reducible have ZR := zkB ZR b6) | (with_reducible have ZR := znB O b6) | skip); (first | (with_reducible have j5 := IntsAt.below i5 b6) | (have j5 := IntsAt.nextA i5 O b6)); have z6 : w5.heap.size ≤ w6.heap.size := (by have := Below.size b6; (try rw [World.size_alloc] at this); (try rw [World.size_alloc]); omega); obtain ⟨d0, d1, d2, d3, d4⟩ := cells5 (MS.ra M6); obtain ⟨p0, p1, p2, p3, p4⟩ := cells5 (MS.rb M6))
                      | (go_at_call 92; refine (HSA.out _ (by trivial)).mono ?_; rintro e w5 ⟨u5, rfl, o5, b5⟩; obtain ⟨A5, c5, e5, i5⟩ := o5.ints (by rw [lA.out]; omega); rw [lA.out] at e5 i5; subst e5; have M5 := MS.next (by first | with_reducible exact M4 | with_reducible exact MS.drew M4 | with_reducible exact MS.alloc M4 hB _ | with_reducible exact MS.alloc (MS.drew M4) hB _) hB b5; (first | (with_reducible have ZR := zkB ZR b5) | (with_reducible have ZR := znB O b5) | skip); obtain ⟨d0, d1, d2, d3, d4⟩ := cells5 (MS.ra M5); obtain ⟨p0, p1, p2, p3, p4⟩ := cells5 (MS.rb M5))
                      | (go_at_call 89; refine (s_StandardCrc _).mono ?_; rintro e w4 ⟨rfl, b4⟩; have M4 := MS.next (by first | with_reducible exact M3 | with_reducible exact MS.drew M3 | with_reducible exact MS.alloc M3 hB _ | with_reducible exact MS.alloc (MS.drew M3) hB _ | with_reducible exact MS.drew (MS.alloc M3 hB _)) hB b4; (first | (with_reducible have ZR := zkB ZR b4) | (with_reducible have ZR := znB O b4) | (with_reducible have ZR := znBd O b4) | skip); obtain ⟨d0, d1, d2, d3, d4⟩ := cells5 (MS.ra M4); obtain ⟨p0, p1, p2, p3, p4⟩ := cells5 (MS.rb M4)))
                  all_goals (
                    have BX := MS.bel M9
                    have IX := MS.ints M9
                    have zX := Below.lt_of' (MS.ra M9)
                    clear hmk HOz hkk hbb HFL hDm M9 M8 M7 M6 M5 M4 M3 d0 d1 d2 d3 d4 p0 p1 p2 p3 p4
                    generalize crcL 0 (sumL SA SB 64) = reg at *
                    go_wp2_with fail
                    refine (s_StandardCrc _).mono ?_
                    rintro e w10 ⟨rfl, b10⟩
                    have zX2 := b10.size
                    replace IX := IX.below' (by omega) b10
                    replace BX := BX.trans (b10.mono (by omega))
                    go_wp2_with fail
                    refine (s_l02Feed reg _ _ _ _ _ _ IX (by omega) hlt.out hb02.out).mono ?_
                    rintro e w11 ⟨rfl, b11⟩
                    replace BX := BX.trans (b11.mono (by omega))
                    go_wp2
                    go_ret2
                    exact ⟨by rw [e1.out, e2.out, int_beq] <;> rfl, by rw [HG.out]; exact BX⟩)
                · have hmR : meR k SA SB = 0 := by simp [meR, hk0]
                  rw [hmR] at e2
                  have hk0' : (k == 0) = false := by simpa using hk0
                  clear hmR hk0
                  go_wp2_with fail
                  refine (s_StandardCrc _).mono ?_
                  rintro e w8 ⟨rfl, b8⟩
                  have z8 := b8.size
                  replace I0 := I0.below' (by omega) b8
                  replace BW := BW.trans (b8.mono (by omega))
                  go_wp2_with fail
                  refine (s_l02Feed0 _ _ _ _ _ _ I0 (by omega) hb02.out).mono ?_
                  rintro e w9 ⟨rfl, b9⟩
                  replace BW := BW.trans (b9.mono (by omega))
                  go_wp2
                  go_ret2
                  exact ⟨by rw [e1.out, e2.out, int_beq] <;> rfl, by rw [HG.out]; exact BW⟩
            · obtain ⟨e1, e2⟩ := ME3.out (by simp [mlOk, hl.out, h8])
              have h8' : ((n : Int) % 8 != 0) = true := by simp; omega
              replace e1 := Lib.hid e1
              replace e2 := Lib.hid e2
              go_wp2_with fail
              go_quiet ((go_at_call 87; exact quiet_l (HT.out _ (by first | exact I0 | exact I0.drew))))
              go_wp2
              go_ret2
              exact ⟨by rw [e1.out, e2.out] <;> rfl, by rw [HG.out]; exact below_drewN BW _⟩
          · obtain ⟨e1, e2⟩ := ME3.out (by simp [mlOk, hl.out, h32])
            have h32' : decide ((n : Int) < 32) = true := by simp; omega
            replace e1 := Lib.hid e1
            replace e2 := Lib.hid e2
            go_wp2_with fail
            go_quiet ((go_at_call 87; exact quiet_l (HT.out _ (by first | exact I0 | exact I0.drew))))
            go_wp2
            go_ret2
            exact ⟨by rw [e1.out, e2.out] <;> rfl, by rw [HG.out]; exact below_drewN BW _⟩
end Go.Proofs.Ytecelofoffdjlaa

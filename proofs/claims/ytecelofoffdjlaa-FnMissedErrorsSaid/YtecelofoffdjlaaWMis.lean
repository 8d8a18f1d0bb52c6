/- The walk of the law on missed errors. -/
import Derived.Test.YtecelofoffdjlaaDrawN
import Derived.Test.YtecelofoffdjlaaMis4
import Derived.Test.YtecelofoffdjlaaKinds
namespace Go.Proofs.Ytecelofoffdjlaa
open Go.RowKit
set_option linter.unusedSimpArgs false
set_option linter.unusedVariables false
set_option maxHeartbeats 4000000 in
theorem w_FnMissedErrors (a0 : Option Addr) (len0 cap0 : Nat) (z0 : List Int) (w : World) (w0 : ArgBytes w a0 len0 cap0 z0) :
    Calls Try.prog 13 #[.slice a0 len0 cap0] w fun e w' => e = .returned (.bool true) ∧ Below w.heap.size w w' := by
  by_cases hbig : 4096 < len0
  · clear w0
    have hb : decide ((4096 : Int) < len0) = true := by simp; omega
    go_enter Try.func13, Try.ntmps13
    go_wp2_with (go_at_call 40; refine (h_big _ _ _ _).mono ?_; rintro e w' ⟨rfl, rfl⟩)
    go_ret
    exact ⟨rfl, Below.refl _ _⟩
  · have hI := w0.2.2 (by omega)
    have hb : decide ((4096 : Int) < len0) = false := by simp; omega
    clear w0
    go_enter Try.func13, Try.ntmps13
    go_wp2_with (go_at_call 40; refine (h_big _ _ _ _).mono ?_; rintro e w' ⟨rfl, rfl⟩)
    refine (s_DrawMissedErrors _ _ _ _ _ _ hI (Nat.le_refl _)).mono ?_
    rintro e w1 ⟨k, t, m, r, s, v, t', m', r', s', v', A, n, c, xs, rfl, I1, hn, BW⟩
    have hl := I1.len
    have HM := Lib.hid (fun (B : Nat) (W : World) (I : IntsAt W B A n c xs) (hB : B ≤ W.heap.size) => i_MissedErrors k t m r s v t' m' r' s' v' A n c xs B W I hB (by omega))
    have HS := Lib.hid (fun (B : Nat) (W : World) (I : IntsAt W B A n c xs) (hB : B ≤ W.heap.size) => s_MissedErrors k t m r s v t' m' r' s' v' A n c xs B W I hB (by omega))
    have HD := Lib.hid (fun W ha hb => i_StateDistance t m r s v t' m' r' s' v' W ha hb)
    have HU := Lib.hid (fun (B : Nat) (W : World) (I : IntsAt W B A n c xs) (hb : bitsOk xs = true) => h_sum A n c xs B W I hb)
    have HE := Lib.hid (fun h => mis_end (k := k) (sa := stOk t m r s v) (sb := stOk t' m' r' s' v') (SA := stBits t.toNat m.toNat r.toNat s.toNat v.toNat) (SB := stBits t'.toNat m'.toNat r'.toNat s'.toNat v'.toNat) (xs := xs) (by omega) h)
    have HW := Lib.hid (fun (hb : bitsOk xs = true) => wt_le xs (bit01_of hb))
    rw [hl] at HW
    generalize stBits t.toNat m.toNat r.toNat s.toNat v.toNat = SA at *
    generalize stBits t'.toNat m'.toNat r'.toNat s'.toNat v'.toNat = SB at *
    have hdl := diffL_len SA SB 64
    generalize meV k (stOk t m r s v) (stOk t' m' r' s' v') SA SB xs = V at *
    generalize meC k (stOk t m r s v) (stOk t' m' r' s' v') xs = C at *
    generalize stOk t m r s v = sa at *
    generalize stOk t' m' r' s' v' = sb at *
    generalize (diffL SA SB 64).length = d at *
    generalize wt xs = p at *
    generalize bitsOk xs = bk at *
    obtain ⟨RA, RB, BX, zW⟩ := two_rows w1 #[.int .i64 t, .int .i64 m, .int .i64 r, .int .i64 s, .int .i64 v] #[.int .i64 t', .int .i64 m', .int .i64 r', .int .i64 s', .int .i64 v'] 45 45
    have IX := I1.below' (Nat.le_refl _) BX
    have zw1 := BW.size
    clear I1 hl
    go_upto_region 4 with fail
    generalize (w1.alloc _).alloc _ = W at *
    have M0 : MS w1.heap.size _ _ w1 w1.heap.size A n c xs W := ⟨RA, RB, BX, IX⟩
    have zX : w1.heap.size ≤ W.heap.size := by omega
    have HBW := Lib.hid BW
    clear RA RB BX IX zW BW
    generalize hg : w1.heap.size = g at *
    have hgg : g ≤ w1.heap.size := by omega
    clear hg
    obtain ⟨d0, d1, d2, d3, d4⟩ := cells5 M0.ra
    obtain ⟨p0, p1, p2, p3, p4⟩ := cells5 M0.rb
    go_wp2_with fail
    refine (HM.out _ _ M0.ints zX).mono ?_
    rintro e w2 ⟨rfl, b2⟩
    have M2 := M0.next (Nat.le_refl _) b2
    have z2 := b2.size
    clear M0 b2 d0 d1 d2 d3 d4 p0 p1 p2 p3 p4 HM
    obtain ⟨d0, d1, d2, d3, d4⟩ := cells5 M2.ra
    obtain ⟨p0, p1, p2, p3, p4⟩ := cells5 M2.rb
    go_wp2_with fail
    refine (HS.out _ _ M2.ints (by omega)).mono ?_
    rintro e w3 ⟨rfl, b3⟩
    have M3 := M2.next (Nat.le_refl _) b3
    have z3 := b3.size
    clear M2 b3 d0 d1 d2 d3 d4 p0 p1 p2 p3 p4 HS
    obtain ⟨d0, d1, d2, d3, d4⟩ := cells5 M3.ra
    obtain ⟨p0, p1, p2, p3, p4⟩ := cells5 M3.rb
    by_cases hC : C = 0
    · subst hC
      obtain ⟨rfl, rfl, rfl, hV0, hV1⟩ := HE.out rfl
      have hp := HW.out rfl
      have HV := Lib.hid (And.intro hV0 hV1)
      clear hV0 hV1 HE HW
      go_wp2_with fail
      refine (HU.out _ _ M3.ints trivial).mono ?_
      rintro e w' ⟨rfl, rfl⟩
      go_wp2_with fail
      refine (HD.out _ trivial trivial).mono ?_
      rintro e w4 ⟨rfl, b4⟩
      have M4 := M3.next (Nat.le_refl _) b4
      have B4 := HBW.out.trans (M4.bel.mono (by omega))
      have HB4 := Lib.hid B4
      clear M3 M4 b4 B4 d0 d1 d2 d3 d4 p0 p1 p2 p3 p4 HU HD HBW
      have hp' : (p : Int) ≤ 900 := by omega
      have hd' : (d : Int) ≤ 64 := by omega
      by_cases hk : k = 0
      · subst hk
        rw [if_pos rfl] at HV
        by_cases hT : p + d = 0
        · obtain rfl := HV.out.1 hT
          obtain rfl : p = 0 := by omega
          obtain rfl : d = 0 := by omega
          go_wp2
          go_ret
          exact ⟨rfl, HB4.out⟩
        · have h0 : ((p : Int) + d == 0) = false := by simp; omega
          have h1 : ((p : Int) + d != 0) = true := by simp; omega
          by_cases hT3 : p + d ≤ 3
          · obtain rfl := HV.out.2 (by omega) hT3
            have h3 : decide ((3 : Int) < (p : Int) + d) = false := by simp; omega
            go_wp2
            go_ret
            exact ⟨rfl, HB4.out⟩
          · have h3 : decide ((3 : Int) < (p : Int) + d) = true := by simp; omega
            go_wp2
            go_ret
            exact ⟨rfl, HB4.out⟩
      · have hk' : (k == 0) = false := by simpa using hk
        rw [if_neg hk, Nat.add_zero] at HV
        clear hk
        by_cases hT : p = 0
        · obtain rfl := HV.out.1 hT
          subst hT
          go_wp2
          go_ret
          exact ⟨rfl, HB4.out⟩
        · have h0 : ((p : Int) == 0) = false := by simp; omega
          have h1 : ((p : Int) != 0) = true := by simp; omega
          by_cases hT3 : p ≤ 3
          · obtain rfl := HV.out.2 (by omega) hT3
            have h3 : decide ((3 : Int) < (p : Int)) = false := by simp; omega
            go_wp2
            go_ret
            exact ⟨rfl, HB4.out⟩
          · have h3 : decide ((3 : Int) < (p : Int)) = true := by simp; omega
            go_wp2
            go_ret
            exact ⟨rfl, HB4.out⟩
    · have hC' : (C != 0) = true := by simpa using hC
      have B4 := HBW.out.trans (M3.bel.mono (by omega))
      have HB4 := Lib.hid B4
      clear hC B4 HBW M3
      go_wp2
      go_ret
      exact ⟨rfl, HB4.out⟩
end Go.Proofs.Ytecelofoffdjlaa

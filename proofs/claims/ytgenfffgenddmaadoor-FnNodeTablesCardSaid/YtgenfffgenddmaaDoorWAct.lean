/- The walk of the law on active nodes. -/
import Derived.Test.YtgenfffgenddmaaDoorDn4a
import Derived.Test.YtgenfffgenddmaaDoorPAct
import Derived.Test.YtgenfffgenddmaaDoorWNtb
namespace Go.Proofs.YtgenfffgenddmaaDoor
open Go.RowKit
set_option linter.unusedSimpArgs false
set_option linter.unusedVariables false
theorem h_big (A : Option Addr) (n c : Nat) (w : World) :
    Calls Tryd.prog 38 #[.slice A n c] w fun e w' => e = .returned (.bool (decide ((4096 : Int) < n))) ∧ w = w' := by
  go_enter Tryd.func38, Tryd.ntmps38
  go_wp2
  go_ret
  exact ⟨rfl, rfl⟩
theorem i_isVector (m : Nat) (w : World) (hm : m < 4294967296) : Calls Tryd.prog 70 #[.int .i64 m] w fun e w' => e = .returned (.bool true) ∧ w = w' := by
  have hT := Lib.hid (fun W => i_within_b m 0 4294967295 true W (by simp; omega))
  go_enter Tryd.func70, Tryd.ntmps70
  go_wp2_with (go_at_call 56; refine (hT.out _).mono ?_; rintro e w' ⟨rfl, rfl⟩)
  go_ret
  exact ⟨rfl, rfl⟩
theorem i_HasMember (m k : Nat) (w : World) (hm : m < 4294967296) (hk : k ≤ 31) : Calls Tryd.prog 45 #[.int .i64 m, .int .i64 k] w fun e w' => e = .returned (.bool (m.testBit k)) ∧ w = w' := by
  have h1 := Lib.hid (fun W => i_isVector m W hm)
  have h2 := Lib.hid (fun W => by have := i_isNode k W; rw [show in31 k = true by unfold in31; simp; omega] at this; exact this)
  have h3 := Lib.hid (fun W => by have := i_has m k W (by omega) (by omega); rw [hasB_nat m k (by omega)] at this; exact this)
  generalize m.testBit k = b at *
  go_enter Tryd.func45, Tryd.ntmps45
  go_wp2_with (first | (go_at_call 70; refine (h1.out _).mono ?_; rintro e w' ⟨rfl, rfl⟩) | (go_at_call 55; refine (h2.out _).mono ?_; rintro e w' ⟨rfl, rfl⟩) | (go_at_call 71; refine (h3.out _).mono ?_; rintro e w' ⟨rfl, rfl⟩))
  go_ret
  exact ⟨rfl, rfl⟩
set_option maxHeartbeats 1500000 in
set_option maxRecDepth 100000 in
theorem w_FnActive_ (HDW : ∀ (A : Option Addr) (n c : Nat) (bs : List Int) (B : Nat) (w : World), BytesAt w B A n c bs → B ≤ w.heap.size → Calls Tryd.prog 43 #[.slice A n c] w (DrewN w)) (a0 : Option Addr) (len0 cap0 : Nat) (z0 : List Int) (w : World) (w0 : ArgBytes w a0 len0 cap0 z0) :
    Calls Tryd.prog 11 #[.slice a0 len0 cap0] w fun e w' => e = .returned (.bool true) ∧ Below w.heap.size w w' := by
  by_cases hbig : 4096 < len0
  · clear w0 HDW
    have hb : decide ((4096 : Int) < len0) = true := by simp; omega
    go_enter Tryd.func11, Tryd.ntmps11
    go_wp2_with (go_at_call 38; refine (h_big _ _ _ _).mono ?_; rintro e w' ⟨rfl, rfl⟩)
    go_ret
    exact ⟨rfl, Below.refl _ _⟩
  · have hI := w0.2.2 (by omega)
    have hb : decide ((4096 : Int) < len0) = false := by simp; omega
    clear w0
    go_enter Tryd.func11, Tryd.ntmps11
    go_wp2_with (go_at_call 38; refine (h_big _ _ _ _).mono ?_; rintro e w' ⟨rfl, rfl⟩)
    refine (HDW _ _ _ _ _ _ hI (Nat.le_refl _)).mono ?_
    rintro e w1 ⟨A, n, c, L, t, rfl, N1, hn, B1⟩
    have hl := N1.1
    clear HDW
    have HW := Lib.hid (fun t' B W hh hB => i_WorstDrift A n c L t' B W hh hB)
    have HF := Lib.hid (fun y B W hh hB => i_FindNode A n c L y B W hh hB)
    have HH := Lib.hid (wd_half (L := L) (t := t))
    have HR := Lib.hid (wd_rng (L := L) (t := t))
    have HFS := Lib.hid (fun i d => find_self (L := L) (i := i) (d := d))
    have HOK := Lib.hid (fun i d h hd => ntOk_nd (L := L) (k := i) (d := d) h hd)
    have HAB := Lib.hid (fun i d h hd => av_bit (L := L) (i := i) (d := d) h hd n)
    have HAV := Lib.hid (fun h => avOut_v (L := L) hl h)
    have HLT := Lib.hid (fun h => avK_lt (L := L) h n)
    generalize avK L n = M at *
    have z1 := B1.size
    go_wp2_with fail
    refine (HW.out t _ w1 N1 (Nat.le_refl _)).mono ?_
    rintro e w2 ⟨rfl, b2⟩
    have N2 := N1.below' (Nat.le_refl _) b2
    have y2 := b2.size
    have B2 := B1.trans (b2.mono z1)
    clear N1 b2
    go_wp2_with fail
    refine (s_WorstDrift A n c L t _ w2 N2 y2).mono ?_
    rintro e w3 ⟨rfl, b3⟩
    have N3 := N2.below' y2 b3
    have y3 : w1.heap.size ≤ w3.heap.size := Nat.le_trans y2 b3.size
    have B3 := B2.trans (b3.mono B2.size)
    clear N2 b3 B2 y2
    go_wp2_with fail
    refine (i_ActiveVector A n c L _ w3 N3 y3).mono ?_
    rintro e w4 ⟨rfl, b4⟩
    have N4 := N3.below' y3 b4
    have y4 : w1.heap.size ≤ w4.heap.size := Nat.le_trans y3 b4.size
    have B4 := B3.trans (b4.mono B3.size)
    clear N3 b4 B3 y3
    go_wp2_with fail
    refine (s_ActiveVector A n c L _ w4 N4 y4).mono ?_
    rintro e w5 ⟨rfl, b5⟩
    have N5 := N4.below' y4 b5
    have y5 : w1.heap.size ≤ w5.heap.size := Nat.le_trans y4 b5.size
    have B5 := B4.trans (b5.mono B4.size)
    clear N4 b5 B4 y4
    go_wp2_with fail
    refine (s_DrawFindNode _ _ _ _ _ w5 (hI.below' (Nat.le_refl _) B5) B5.size).mono ?_
    rintro e w6 ⟨A', n', c', L', y', rfl, M6, hn', b6⟩
    have N6 := N5.below' y5 b6
    have y6 : w1.heap.size ≤ w6.heap.size := Nat.le_trans y5 b6.size
    have B6 := B5.trans (b6.mono B5.size)
    clear N5 b6 B5 y5 hI
    have HS := Lib.hid (fun B W hh hB => s_FindNode A' n' c' L' y' B W hh hB)
    have HI := Lib.hid (fun B W hh hB => i_FindNode A' n' c' L' y' B W hh hB)
    generalize fnOut L' y' = f at *
    obtain ⟨⟨fi, fs, fr, fp⟩, fc⟩ := f
    simp only [fnVal_d] at HS HI
    go_wp2_with fail
    refine (HI.out _ w6 M6 (Nat.le_refl _)).mono ?_
    rintro e w7 ⟨rfl, b7⟩
    have N7 := N6.below' y6 b7
    have M7 := M6.below' (Nat.le_refl _) b7
    have y7 := b7.size
    have B7 := B6.trans (b7.mono B6.size)
    have R7 := heap_alloc_new w7 (.cells #[.int .i64 fi, .string fs, .int .i64 fr, .bool fp] 36)
    have bA := (Below.refl w7.heap.size w7).alloc (Nat.le_refl _) (.cells #[.int .i64 fi, .string fs, .int .i64 fr, .bool fp] 36)
    have x7 : w7.heap.size < (w7.alloc (.cells #[.int .i64 fi, .string fs, .int .i64 fr, .bool fp] 36)).heap.size := by simp
    have N8 := N7.below' (by omega) bA
    have M8 := M7.below' y7 bA
    have B8 := B7.trans (bA.mono B7.size)
    clear N6 M6 b7 N7 M7 B7 B6 bA
    go_upto_region 10 with fail
    generalize hg : w7.heap.size = g at *
    generalize World.alloc _ _ = w8 at *
    clear hg
    go_wp2_with fail
    refine (HS.out _ w8 M8 (by omega)).mono ?_
    rintro e w9 ⟨rfl, b9⟩
    have N9 := N8.below' (by omega) b9
    have B9 := B8.trans (b9.mono B8.size)
    have R9 := (b9.block g x7).trans R7
    have y9 := b9.size
    have Q9 := heap_alloc_new w9 (.cells #[.int .i64 fi, .string fs, .int .i64 fr, .bool fp] 36)
    have bA := (Below.refl w9.heap.size w9).alloc (Nat.le_refl _) (.cells #[.int .i64 fi, .string fs, .int .i64 fr, .bool fp] 36)
    have z9A := bA.size
    have R10 := (bA.block g (by omega)).trans R9
    have N10 := N9.below' (by omega) bA
    have B10 := B9.trans (bA.mono B9.size)
    clear N8 M8 b9 B8 N9 B9 R9 R7 bA HS HI
    go_upto_region 11 with fail
    generalize hg : w9.heap.size = g9 at *
    generalize World.alloc _ _ = w10 at *
    clear hg
    obtain ⟨c0, c1, c2, c3⟩ := cells4 R10
    obtain ⟨d0, d1, d2, d3⟩ := cells4 Q9
    have z10 := B10.size
    by_cases h0 : (wdOut L t).2 = 0
    · obtain ⟨h1, h2, hok⟩ := HH.out h0
      obtain ⟨t0, t1⟩ := HR.out h0
      have ea := HAV.out hok
      have HM := HLT.out hok
      simp only [ea, h0]
      clear ea HAV HLT HR HH
      go_wp2
      clear c0 c1 c2 c3 d0 d1 d2 d3 R10 Q9
      generalize (wdOut L t).1 = p1 at *
      have HOKK := Lib.hid hok
      clear hok h0
      have y10 : w1.heap.size ≤ w10.heap.size := by omega
      go_loopw [19] (fun i wr => ∃ k : Nat, k ≤ n ∧ i = .int .i64 k ∧ Below w10.heap.size w10 wr) (fun i _ => n - (intOf i).toNat)
      case atStart => exact ⟨0, Nat.zero_le _, rfl, Below.refl _ _⟩
      case round =>
        obtain ⟨k, hk, rfl, bk⟩ := hrel
        have zk := bk.size
        have Nk := N10.below' y10 bk
        by_cases hlt : k < n
        · obtain ⟨ad, d, rfl, hab, hd, cs, hs⟩ := Nk.at_ k hlt
          have hC := HF.out d.id _ wr Nk (by omega)
          rw [HFS.out k d HOKK.out hd] at hC
          have hnd := HOK.out k d HOKK.out hd
          have hbit := HAB.out k d HOKK.out hd
          rw [show decide (k < n) = true by simpa using hlt, Bool.true_and] at hbit
          have hrg := (ndOk_rng hnd).1
          have HIN := Lib.hid (fun W => i_IsNodeInfo d W (by unfold maxLen; omega))
          obtain ⟨q0, q1, q2, q3⟩ := cs
          obtain ⟨i, s, r, pv⟩ := d
          obtain ⟨j, rfl⟩ : ∃ j : Nat, i = j := ⟨i.toNat, by simp only at hrg; omega⟩
          simp only [fnVal_d, Int.toNat_natCast, Nd.cells] at hC hbit hrg q0 q1 q2 q3 HIN
          rw [hnd] at HIN
          have HMM := Lib.hid (fun W => by have := i_HasMember M j W HM (by omega); rw [hbit] at this; exact this)
          have HCC := Lib.hid hC
          have b0 : (0 : Int) ≤ (k : Int) := by omega
          have b1 : (k : Int) < (n : Int) := by omega
          have CK := Lib.hid (fun (W : World) (b : Below w1.heap.size wr W) => (show ndCells wr ad k ⟨(j : Int), s, r, pv⟩ from ⟨q0, q1, q2, q3⟩).keep (w' := W) fun p hp => b.cell (by rw [hp]; exact hab))
          clear hC hnd hbit hd hs
          go_wp2_with fail
          refine HCC.out.mono ?_
          rintro e w11 ⟨rfl, b11⟩
          have R11 := heap_alloc_new w11 (.cells #[.int .i64 j, .string s, .int .i64 r, .bool pv] 36)
          have bA := b11.alloc b11.size (.cells #[.int .i64 j, .string s, .int .i64 r, .bool pv] 36)
          have b12 := bk.trans (bA.mono zk)
          obtain ⟨v0, v1, v2, v3⟩ := CK.out _ (bA.mono (by omega))
          clear q0 q1 q2 q3 CK HCC b11 bA
          go_upto_region 19 with fail
          generalize hg : w11.heap.size = g11 at *
          generalize World.alloc _ _ = w12 at *
          clear hg
          obtain ⟨u0, u1, u2, u3⟩ := cells4 R11
          replace u0 := cell_regrown u0
          replace u1 := cell_regrown u1
          replace u2 := cell_regrown u2
          replace u3 := cell_regrown u3
          replace v0 := cell_regrown v0
          replace v1 := cell_regrown v1
          replace v2 := cell_regrown v2
          replace v3 := cell_regrown v3
          have C1 : ∀ dd os, Calls Tryd.prog 23 #[.agg #[.int .i64 j, .string s, .int .i64 r, .bool pv]] (Go.Sort.grow (redrawn w12 dd) os) fun e w'' => e = .returned (.bool true) ∧ ∃ p : Regrown, w'' = Go.Sort.grow (redrawn w12 p.d) p.os := fun dd os => Calls.regrown_of ((HIN.out _).mono fun e w' h => h)
          have C2 : ∀ dd os, Calls Tryd.prog 45 #[.int .i64 M, .int .i64 j] (Go.Sort.grow (redrawn w12 dd) os) fun e w'' => e = .returned (.bool (!pv)) ∧ ∃ p : Regrown, w'' = Go.Sort.grow (redrawn w12 p.d) p.os := fun dd os => Calls.regrown_of ((HMM.out _).mono fun e w' h => ⟨h.1, h.2 ▸ Below.refl _ _⟩)
          cases pv
          all_goals
            refine wp_region_quiet_below (by kernel_rfl) (by kernel_rfl) ?_
            repeat (first | go_big_quiet_step (first | exact C1 _ _ | exact C2 _ _) | quiet_step (first | exact C1 _ _ | exact C2 _ _))
            refine wpQuiet_nil ?_
            intro _ hw'
            obtain ⟨⟨dq, osq⟩, hw''⟩ := hw'
            subst hw''
            have b13 := b12.trans ((below_regrown w12 dq osq).mono b12.size)
            generalize Go.Sort.grow (redrawn w12 dq) osq = w13 at *
            clear u0 u1 u2 u3 v0 v1 v2 v3 C1 C2
            go_wp2
            go_roundw
            case rel => exact ⟨k + 1, by omega, by go_num, b13⟩
            case measure => simp [intOf]; omega
        · have ht : t.tdiv 2 = t / 2 := Int.tdiv_eq_ediv_of_nonneg t0
          have hw2 : IntKind.i64.wrap (t / 2) = t / 2 := IntWalk.i64_in _ (by omega)
          have HC := Lib.hid (HW.out (t / 2) _ wr Nk (by omega))
          have Bk := B10.trans (bk.mono B10.size)
          generalize wdOut L (t / 2) = pq at *
          obtain ⟨x, y⟩ := pq
          simp only at h1 h2 HC
          subst h1
          have hd : decide (x ≤ p1) = true := by simpa using h2
          go_wp2_with fail
          refine HC.out.mono ?_
          rintro e w14 ⟨rfl, b14⟩
          go_wp2
          go_ret
          exact ⟨by rfl, Bk.trans (b14.mono Bk.size)⟩
    · have h0' : ((wdOut L t).2 != 0) = true := by simpa using h0
      clear HH HR HAV HLT HOK HAB HFS
      go_wp2
      go_ret
      exact ⟨rfl, B10⟩
end Go.Proofs.YtgenfffgenddmaaDoor

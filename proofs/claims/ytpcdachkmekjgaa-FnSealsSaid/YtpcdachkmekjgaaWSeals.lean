/- The walk of the law on sealed frames. -/
import Derived.Test.YtpcdachkmekjgaaDrawJ
import Derived.Test.YtpcdachkmekjgaaPSeal
import Derived.Test.YtpcdachkmekjgaaOFT
import Derived.BigRegion
namespace Go.Proofs.Ytpcdachkmekjgaa
open Go.RowKit
set_option linter.unusedSimpArgs false
set_option linter.unusedVariables false
theorem seal_size {k q t m r s v : Int} {xs : List Int} (h : frOk k q t m r s v xs = true) (id T M R S V : Int) : sealV k (xs.length : Int) = ((sealL k q t m r s v xs id T M R S V).length : Int) ∧ bodyC k (xs.length : Int) = 0 := by
  obtain ⟨-, e2, e3, -, -, -, -⟩ := bodyL_ok h
  rw [sealL_len, (seal_lem k xs.length).1 e3, e2]
  exact ⟨by omega, e3⟩
theorem seal_all {k q t m r s v : Int} {xs : List Int} {id T M R S V : Int} (h : slC (frOk k q t m r s v xs) (stOk T M R S V) id = 0) :
    (sealL k q t m r s v xs id T M R S V).length ≤ 1000 ∧ 4 ≤ (sealL k q t m r s v xs id T M R S V).length ∧ sealV k (xs.length : Int) = ((sealL k q t m r s v xs id T M R S V).length : Int) ∧ bodyC k (xs.length : Int) = 0 ∧
    ofC (sealL k q t m r s v xs id T M R S V) id T M R S V = (if k = 0 ∨ (t = T ∧ m = M ∧ r = R ∧ s = S ∧ v = V) then 0 else 5) ∧
    hdK ((sealL k q t m r s v xs id T M R S V).take ((sealL k q t m r s v xs id T M R S V).length - 3)) = k ∧ hdQ ((sealL k q t m r s v xs id T M R S V).take ((sealL k q t m r s v xs id T M R S V).length - 3)) = q ∧ hdD ((sealL k q t m r s v xs id T M R S V).take ((sealL k q t m r s v xs id T M R S V).length - 3)) = xs ∧ stF ((sealL k q t m r s v xs id T M R S V).take ((sealL k q t m r s v xs id T M R S V).length - 3)) 0 16 = t ∧ stF ((sealL k q t m r s v xs id T M R S V).take ((sealL k q t m r s v xs id T M R S V).length - 3)) 16 4 = m ∧ stF ((sealL k q t m r s v xs id T M R S V).take ((sealL k q t m r s v xs id T M R S V).length - 3)) 20 4 = r ∧ stF ((sealL k q t m r s v xs id T M R S V).take ((sealL k q t m r s v xs id T M R S V).length - 3)) 24 8 = s ∧ stF ((sealL k q t m r s v xs id T M R S V).take ((sealL k q t m r s v xs id T M R S V).length - 3)) 32 32 = v := by
  obtain ⟨h1, h2, h3⟩ := slC_zero h
  have hl := sealL_len k q t m r s v xs id T M R S V
  have hb := bodyL_ok h1
  have hz := seal_size h1 id T M R S V
  have hsm := body_small h1
  refine ⟨by omega, by omega, hz.1, hz.2, seal_opens h1 h2 h3, ?_⟩
  rw [sealL_take]
  exact fb_back h1
set_option maxHeartbeats 8000000 in
theorem w_FnSeals (a0 : Option Addr) (len0 cap0 : Nat) (z0 : List Int) (w : World) (w0 : ArgBytes w a0 len0 cap0 z0) :
    Calls Try.prog 11 #[.slice a0 len0 cap0] w fun e w' => e = .returned (.bool true) ∧ Below w.heap.size w w' := by
  by_cases hbig : 4096 < len0
  · clear w0
    have hb : decide ((4096 : Int) < len0) = true := by simp; omega
    go_enter Try.func11, Try.ntmps11
    go_wp2_with (go_at_call 36; refine (h_big _ _ _ _).mono ?_; rintro e w' ⟨rfl, rfl⟩)
    go_ret
    exact ⟨rfl, Below.refl _ _⟩
  · have hI := w0.2.2 (by omega)
    have hb : decide ((4096 : Int) < len0) = false := by simp; omega
    clear w0
    go_enter Try.func11, Try.ntmps11
    go_wp2_with (go_at_call 36; refine (h_big _ _ _ _).mono ?_; rintro e w' ⟨rfl, rfl⟩)
    refine (s_DrawSealFrame _ _ _ _ _ _ hI (Nat.le_refl _)).mono ?_
    rintro e w1 ⟨k, q, t, m, r, s, v, A1, c1, xs, id, T, M, R, S, V, rfl, hx, I1, BW⟩
    clear hI hb hbig
    have z1 := BW.size
    obtain ⟨RF, RS⟩ := two_new w1 (.cells #[.int .i64 k, .int .i64 q, .int .i64 t, .int .i64 m, .int .i64 r, .int .i64 s, .int .i64 v, .slice A1 xs.length c1] 32) (.cells #[.int .i64 T, .int .i64 M, .int .i64 R, .int .i64 S, .int .i64 V] 30)
    replace I1 := (I1.alloc (Nat.le_refl _) (.cells #[.int .i64 k, .int .i64 q, .int .i64 t, .int .i64 m, .int .i64 r, .int .i64 s, .int .i64 v, .slice A1 xs.length c1] 32)).alloc (by simp) (.cells #[.int .i64 T, .int .i64 M, .int .i64 R, .int .i64 S, .int .i64 V] 30)
    replace BW := (BW.alloc z1 (.cells #[.int .i64 k, .int .i64 q, .int .i64 t, .int .i64 m, .int .i64 r, .int .i64 s, .int .i64 v, .slice A1 xs.length c1] 32)).alloc (by rw [World.size_alloc]; omega) (.cells #[.int .i64 T, .int .i64 M, .int .i64 R, .int .i64 S, .int .i64 V] 30)
    have HIS := Lib.hid (fun B W h hB => i_SealFrame k q t m r s v A1 xs.length c1 xs id T M R S V B W h hB)
    have HSS := Lib.hid (fun B W h hB => s_SealFrame k q t m r s v A1 xs.length c1 xs id T M R S V B W h hB)
    have HIN := Lib.hid (fun B W h hB => i_SealNumber k q t m r s v A1 xs.length c1 xs id T M R S V B W h hB)
    have HSN := Lib.hid (fun B W h hB => s_SealNumber k q t m r s v A1 xs.length c1 xs id T M R S V B W h hB)
    have HALL := Lib.hid (@seal_all k q t m r s v xs id T M R S V)
    have hLn : (if slC (frOk k q t m r s v xs) (stOk T M R S V) id = 0 then sealL k q t m r s v xs id T M R S V else []).length ≤ 1000 := by
      split
      · rename_i h; exact (seal_all h).1
      · simp
    have HL := Lib.hid (fun h : slC (frOk k q t m r s v xs) (stOk T M R S V) id = 0 => (if_pos h : (if slC (frOk k q t m r s v xs) (stOk T M R S V) id = 0 then sealL k q t m r s v xs id T M R S V else []) = _))
    generalize (if slC (frOk k q t m r s v xs) (stOk T M R S V) id = 0 then sealL k q t m r s v xs id T M R S V else []) = L at *
    generalize (if slC (frOk k q t m r s v xs) (stOk T M R S V) id = 0 then ((chkN k (bodyL k q t m r s v xs) id.toNat T M R S V : Nat) : Int) else 0) = N at *
    generalize slC (frOk k q t m r s v xs) (stOk T M R S V) id = C at *
    generalize sealL k q t m r s v xs id T M R S V = L' at *
    have hcd : (C != C) = false := by simp
    have hnd : (N != N) = false := by simp
    have he := eqL_refl L
    go_upto_region 4 with fail
    generalize hgF : w1.heap.size = gF at *
    generalize World.alloc _ _ = W at *
    have yS := Below.lt_of' RS
    obtain ⟨c0, c1', c2, c3, c4, c5, c6, c7⟩ := fr_cells RF
    obtain ⟨s0, s1, s2, s3, s4⟩ := desc_cells RS
    go_wp2_with fail
    refine (HIS.out _ _ I1 (by omega)).mono ?_
    rintro e wa ⟨ua, rfl, oa, ba⟩
    obtain ⟨Aa, da, rfl, Ia⟩ := oa.ints (by omega)
    clear oa
    have za := ba.size
    replace RF := (ba.block gF (by omega)).trans RF
    replace RS := (ba.block (gF + 1) (by omega)).trans RS
    replace I1 := I1.below' (by omega) ba
    replace BW := BW.trans (ba.mono (by omega))
    clear ba HIS
    clear c0 c1' c2 c3 c4 c5 c6 c7 s0 s1 s2 s3 s4
    obtain ⟨c0, c1', c2, c3, c4, c5, c6, c7⟩ := fr_cells RF
    obtain ⟨s0, s1, s2, s3, s4⟩ := desc_cells RS
    go_wp2_with fail
    refine (HSS.out _ _ I1 (by omega)).mono ?_
    rintro e wb ⟨ub, rfl, ob, bb⟩
    obtain ⟨Ab, db, rfl, Ib⟩ := ob.ints (by omega)
    clear ob
    have zb := bb.size
    replace RF := (bb.block gF (by omega)).trans RF
    replace RS := (bb.block (gF + 1) (by omega)).trans RS
    replace I1 := I1.below' (by omega) bb
    replace BW := BW.trans (bb.mono (by omega))
    replace Ia := Ia.below bb
    clear bb HSS
    clear c0 c1' c2 c3 c4 c5 c6 c7 s0 s1 s2 s3 s4
    obtain ⟨c0, c1', c2, c3, c4, c5, c6, c7⟩ := fr_cells RF
    obtain ⟨s0, s1, s2, s3, s4⟩ := desc_cells RS
    go_wp2_with fail
    refine (HIN.out _ _ I1 (by omega)).mono ?_
    rintro e wc ⟨rfl, bc⟩
    have zc := bc.size
    replace RF := (bc.block gF (by omega)).trans RF
    replace RS := (bc.block (gF + 1) (by omega)).trans RS
    replace I1 := I1.below' (by omega) bc
    replace BW := BW.trans (bc.mono (by omega))
    replace Ia := Ia.below' (by omega) bc
    replace Ib := Ib.below' (by omega) bc
    clear bc HIN
    clear c0 c1' c2 c3 c4 c5 c6 c7 s0 s1 s2 s3 s4
    obtain ⟨c0, c1', c2, c3, c4, c5, c6, c7⟩ := fr_cells RF
    obtain ⟨s0, s1, s2, s3, s4⟩ := desc_cells RS
    go_wp2_with fail
    refine (HSN.out _ _ I1 (by omega)).mono ?_
    rintro e wd ⟨rfl, bd⟩
    have zd := bd.size
    replace RF := (bd.block gF (by omega)).trans RF
    replace RS := (bd.block (gF + 1) (by omega)).trans RS
    replace I1 := I1.below' (by omega) bd
    replace BW := BW.trans (bd.mono (by omega))
    replace Ia := Ia.below' (by omega) bd
    replace Ib := Ib.below' (by omega) bd
    clear bd HSN
    clear c0 c1' c2 c3 c4 c5 c6 c7 s0 s1 s2 s3 s4
    obtain ⟨c0, c1', c2, c3, c4, c5, c6, c7⟩ := fr_cells RF
    obtain ⟨s0, s1, s2, s3, s4⟩ := desc_cells RS
    go_wp2_with fail
    refine (h_likeInts _ _ _ _ _ _ _ _ _ _ _ Ia Ib).mono ?_
    rintro e w8 ⟨rfl, m8, rfl⟩
    rw [he]
    replace Ia := Ia.drewN m8
    replace Ib := Ib.drewN m8
    replace I1 := I1.drewN m8
    replace RF : (wd.drewN m8).heap[gF]? = _ := RF
    replace RS : (wd.drewN m8).heap[gF + 1]? = _ := RS
    replace BW := below_drewN BW m8
    have y8 : (wd.drewN m8).heap.size = wd.heap.size := rfl
    clear c0 c1' c2 c3 c4 c5 c6 c7 s0 s1 s2 s3 s4 he
    generalize wd.drewN m8 = w8 at *
    by_cases hC : C = 0
    · subst hC
      obtain ⟨p1, p2, p3, p4, p5, q1, q2, q3, q4, q5, q6, q7, q8⟩ := HALL.out rfl
      have hLL := HL.out rfl
      subst hLL
      clear HALL HL
      have HO0 : ∀ (B : Nat) (W : World), IntsAt W B Aa L.length da L → B ≤ W.heap.size → Calls Try.prog 35 #[.slice Aa L.length da, .int .i64 id, .agg #[.int .i64 T, .int .i64 M, .int .i64 R, .int .i64 S, .int .i64 V]] W (fun e w' => ∃ sl, e = .returned (.tuple #[.agg #[.int .i64 (ofV (ofC L id T M R S V) (hdK (L.take (L.length - 3)))), .int .i64 (ofV (ofC L id T M R S V) (hdQ (L.take (L.length - 3)))), .int .i64 (ofV (ofC L id T M R S V) (stF (L.take (L.length - 3)) 0 16)), .int .i64 (ofV (ofC L id T M R S V) (stF (L.take (L.length - 3)) 16 4)), .int .i64 (ofV (ofC L id T M R S V) (stF (L.take (L.length - 3)) 20 4)), .int .i64 (ofV (ofC L id T M R S V) (stF (L.take (L.length - 3)) 24 8)), .int .i64 (ofV (ofC L id T M R S V) (stF (L.take (L.length - 3)) 32 32)), sl], .int .i64 (ofC L id T M R S V)]) ∧ IOwn w' W.heap.size sl (if ofC L id T M R S V = 0 then hdD (L.take (L.length - 3)) else []) ∧ Below W.heap.size W w') :=
        fun B W h hB => i_OpenFrame Aa L.length da L id T M R S V B W h hB
      have HO := Lib.hid HO0
      clear HO0
      have HIO := Lib.hid (fun B W h hB => i_IsOpenable Aa L.length da L id T M R S V B W h hB)
      have HZ := Lib.hid (fun W => i_SealSize k (xs.length : Int) W)
      rw [p3, p4] at HZ
      clear p3 p4
      obtain ⟨c0, c1', c2, c3, c4, c5, c6, c7⟩ := fr_cells RF
      obtain ⟨s0, s1, s2, s3, s4⟩ := desc_cells RS
      by_cases hS : k = 0 ∨ (t = T ∧ m = M ∧ r = R ∧ s = S ∧ v = V)
      · rw [if_pos hS] at p5
        rw [p5] at HO HIO
        simp only [ofV, eq_self, if_true, q1, q2, q3, q4, q5, q6, q7, q8] at HO
        have h00 : ((0 : Int) == 0) = true := rfl
        rw [h00] at HIO
        clear q1 q2 q3 q4 q5 q6 q7 q8 p5 h00
        go_wp2_with fail
        refine (HO.out _ _ Ia (by omega)).mono ?_
        rintro e w9 ⟨u9, rfl, o9, b9⟩
        obtain ⟨A9, d9, rfl, I9⟩ := o9.ints (by first | omega | simp)
        have z9 := b9.size
        have R9 := heap_alloc_new w9 (.cells #[.int .i64 k, .int .i64 q, .int .i64 t, .int .i64 m, .int .i64 r, .int .i64 s, .int .i64 v, .slice A9 xs.length d9] 32)
        replace RF := ((Below.heap_alloc w9 (.cells #[.int .i64 k, .int .i64 q, .int .i64 t, .int .i64 m, .int .i64 r, .int .i64 s, .int .i64 v, .slice A9 xs.length d9] 32) gF (by omega)).trans (b9.block gF (by omega))).trans RF
        replace RS := ((Below.heap_alloc w9 (.cells #[.int .i64 k, .int .i64 q, .int .i64 t, .int .i64 m, .int .i64 r, .int .i64 s, .int .i64 v, .slice A9 xs.length d9] 32) (gF + 1) (by omega)).trans (b9.block (gF + 1) (by omega))).trans RS
        replace I1 := (I1.below' (by omega) b9).alloc (by omega) (.cells #[.int .i64 k, .int .i64 q, .int .i64 t, .int .i64 m, .int .i64 r, .int .i64 s, .int .i64 v, .slice A9 xs.length d9] 32)
        replace Ia := (Ia.below' (by omega) b9).alloc (by omega) (.cells #[.int .i64 k, .int .i64 q, .int .i64 t, .int .i64 m, .int .i64 r, .int .i64 s, .int .i64 v, .slice A9 xs.length d9] 32)
        replace I9 := I9.alloc (Nat.le_refl _) (.cells #[.int .i64 k, .int .i64 q, .int .i64 t, .int .i64 m, .int .i64 r, .int .i64 s, .int .i64 v, .slice A9 xs.length d9] 32)
        replace BW := (BW.trans (b9.mono (by omega))).alloc (by omega) (.cells #[.int .i64 k, .int .i64 q, .int .i64 t, .int .i64 m, .int .i64 r, .int .i64 s, .int .i64 v, .slice A9 xs.length d9] 32)
        clear o9 b9 HO
        clear c0 c1' c2 c3 c4 c5 c6 c7 s0 s1 s2 s3 s4
        obtain ⟨c0, c1', c2, c3, c4, c5, c6, c7⟩ := fr_cells RF
        obtain ⟨s0, s1, s2, s3, s4⟩ := desc_cells RS
        obtain ⟨x0, x1, x2, x3, x4, x5, x6, x7⟩ := fr_cells R9
        have lF : gF < w9.heap.size := by omega
        have nF : gF ≠ w9.heap.size := by omega
        have lS : gF + 1 < w9.heap.size := by omega
        have nS : gF + 1 ≠ w9.heap.size := by omega
        go_upto_region 13 with fail
        clear lF nF lS nS x0 x1 x2 x3 x4 x5 x6 x7
        generalize hg9 : w9.heap.size = g9 at *
        generalize w9.alloc _ = W9 at *
        have y9 := Below.lt_of' R9
        obtain ⟨x0, x1, x2, x3, x4, x5, x6, x7⟩ := fr_cells R9
        rcases hS with hS | ⟨e1, e2, e3, e4, e5⟩
        · have hk : (k != 0) = false := by simp [hS]
          clear hS
          go_wp2_with (first | (go_at_call 46; refine (HZ.out _).mono ?_; rintro e w' ⟨rfl, rfl⟩))
          refine (h_likeFrames k q t m r s v _ _ _ _ _ _ xs _ _ _ I9 I1 (by omega) (by omega)).mono ?_
          rintro e wp ⟨rfl, bp⟩
          have zp := bp.size
          replace RS := (bp.block (gF + 1) (by omega)).trans RS
          replace Ia := Ia.below' (by omega) bp
          replace BW := BW.trans (bp.mono (by omega))
          clear bp
          clear c0 c1' c2 c3 c4 c5 c6 c7 s0 s1 s2 s3 s4
          obtain ⟨s0, s1, s2, s3, s4⟩ := desc_cells RS
          have hll : ((L.length : Int) == (L.length : Int)) = true := by simp
          go_wp2_with fail
          refine (HIO.out _ _ Ia (by omega)).mono ?_
          rintro e wq ⟨rfl, bq⟩
          go_wp2
          go_ret
          exact ⟨rfl, BW.trans (bq.mono (by omega))⟩
        · subst e1 e2 e3 e4 e5
          cases hk : (k != 0)
          · go_wp2_with (first | (go_at_call 46; refine (HZ.out _).mono ?_; rintro e w' ⟨rfl, rfl⟩))
            refine (h_likeFrames k q t m r s v _ _ _ _ _ _ xs _ _ _ I9 I1 (by omega) (by omega)).mono ?_
            rintro e wp ⟨rfl, bp⟩
            have zp := bp.size
            replace RS := (bp.block (gF + 1) (by omega)).trans RS
            replace Ia := Ia.below' (by omega) bp
            replace BW := BW.trans (bp.mono (by omega))
            clear bp
            clear c0 c1' c2 c3 c4 c5 c6 c7 s0 s1 s2 s3 s4
            obtain ⟨s0, s1, s2, s3, s4⟩ := desc_cells RS
            have hll : ((L.length : Int) == (L.length : Int)) = true := by simp
            go_wp2_with fail
            refine (HIO.out _ _ Ia (by omega)).mono ?_
            rintro e wq ⟨rfl, bq⟩
            go_wp2
            go_ret
            exact ⟨rfl, BW.trans (bq.mono (by omega))⟩
          · go_wp2_with (first | (go_at_call 46; refine (HZ.out _).mono ?_; rintro e w' ⟨rfl, rfl⟩))
            refine (h_likeFrames k q t m r s v _ _ _ _ _ _ xs _ _ _ I9 I1 (by omega) (by omega)).mono ?_
            rintro e wp ⟨rfl, bp⟩
            have zp := bp.size
            replace RS := (bp.block (gF + 1) (by omega)).trans RS
            replace Ia := Ia.below' (by omega) bp
            replace BW := BW.trans (bp.mono (by omega))
            clear bp
            clear c0 c1' c2 c3 c4 c5 c6 c7 s0 s1 s2 s3 s4
            obtain ⟨s0, s1, s2, s3, s4⟩ := desc_cells RS
            have hll : ((L.length : Int) == (L.length : Int)) = true := by simp
            go_wp2_with fail
            refine (HIO.out _ _ Ia (by omega)).mono ?_
            rintro e wq ⟨rfl, bq⟩
            go_wp2
            go_ret
            exact ⟨rfl, BW.trans (bq.mono (by omega))⟩
      · rw [if_neg hS] at p5
        rw [p5] at HO
        have h50 : ¬ ((5 : Int) = 0) := by decide
        simp only [ofV, if_neg h50] at HO
        clear q1 q2 q3 q4 q5 q6 q7 q8 p5 h50 HIO HZ
        go_wp2_with fail
        refine (HO.out _ _ Ia (by omega)).mono ?_
        rintro e w9 ⟨u9, rfl, o9, b9⟩
        obtain ⟨A9, d9, rfl, I9⟩ := o9.ints (by first | omega | simp)
        have z9 := b9.size
        have R9 := heap_alloc_new w9 (.cells #[.int .i64 0, .int .i64 0, .int .i64 0, .int .i64 0, .int .i64 0, .int .i64 0, .int .i64 0, .slice A9 ([] : List Int).length d9] 32)
        replace RF := ((Below.heap_alloc w9 (.cells #[.int .i64 0, .int .i64 0, .int .i64 0, .int .i64 0, .int .i64 0, .int .i64 0, .int .i64 0, .slice A9 ([] : List Int).length d9] 32) gF (by omega)).trans (b9.block gF (by omega))).trans RF
        replace RS := ((Below.heap_alloc w9 (.cells #[.int .i64 0, .int .i64 0, .int .i64 0, .int .i64 0, .int .i64 0, .int .i64 0, .int .i64 0, .slice A9 ([] : List Int).length d9] 32) (gF + 1) (by omega)).trans (b9.block (gF + 1) (by omega))).trans RS
        replace I1 := (I1.below' (by omega) b9).alloc (by omega) (.cells #[.int .i64 0, .int .i64 0, .int .i64 0, .int .i64 0, .int .i64 0, .int .i64 0, .int .i64 0, .slice A9 ([] : List Int).length d9] 32)
        replace Ia := (Ia.below' (by omega) b9).alloc (by omega) (.cells #[.int .i64 0, .int .i64 0, .int .i64 0, .int .i64 0, .int .i64 0, .int .i64 0, .int .i64 0, .slice A9 ([] : List Int).length d9] 32)
        replace I9 := I9.alloc (Nat.le_refl _) (.cells #[.int .i64 0, .int .i64 0, .int .i64 0, .int .i64 0, .int .i64 0, .int .i64 0, .int .i64 0, .slice A9 ([] : List Int).length d9] 32)
        replace BW := (BW.trans (b9.mono (by omega))).alloc (by omega) (.cells #[.int .i64 0, .int .i64 0, .int .i64 0, .int .i64 0, .int .i64 0, .int .i64 0, .int .i64 0, .slice A9 ([] : List Int).length d9] 32)
        clear o9 b9 HO
        clear c0 c1' c2 c3 c4 c5 c6 c7 s0 s1 s2 s3 s4
        obtain ⟨c0, c1', c2, c3, c4, c5, c6, c7⟩ := fr_cells RF
        obtain ⟨s0, s1, s2, s3, s4⟩ := desc_cells RS
        obtain ⟨x0, x1, x2, x3, x4, x5, x6, x7⟩ := fr_cells R9
        have lF : gF < w9.heap.size := by omega
        have nF : gF ≠ w9.heap.size := by omega
        have lS : gF + 1 < w9.heap.size := by omega
        have nS : gF + 1 ≠ w9.heap.size := by omega
        go_upto_region 13 with fail
        clear lF nF lS nS x0 x1 x2 x3 x4 x5 x6 x7
        generalize hg9 : w9.heap.size = g9 at *
        generalize w9.alloc _ = W9 at *
        have y9 := Below.lt_of' R9
        obtain ⟨x0, x1, x2, x3, x4, x5, x6, x7⟩ := fr_cells R9
        have hk : (k != 0) = true := by simp; exact fun e => hS (.inl e)
        rcases same_ways t m r s v T M R S V with ⟨q0, q1, q2, q3, q4⟩ | q0 | ⟨q0, q1⟩ | ⟨q0, q1, q2⟩ | ⟨q0, q1, q2, q3⟩ | ⟨q0, q1, q2, q3, q4⟩
        · exfalso
          simp at q0 q1 q2 q3 q4
          exact hS (.inr ⟨q0, q1, q2, q3, q4⟩)
        all_goals
          go_wp2
          go_ret
          exact ⟨rfl, BW⟩
    · have hf0 : (C != 0) = true := by simpa using hC
      clear HALL HL
      go_wp2
      go_ret
      exact ⟨rfl, BW⟩
end Go.Proofs.Ytpcdachkmekjgaa

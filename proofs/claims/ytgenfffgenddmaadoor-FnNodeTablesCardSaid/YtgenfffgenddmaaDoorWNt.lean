/- The walk of the law on node tables. -/
import Derived.Test.YtgenfffgenddmaaDoorLk
import Derived.Test.YtgenfffgenddmaaDoorPNt
import Derived.Test.YtgenfffgenddmaaDoorWAct
namespace Go.Proofs.YtgenfffgenddmaaDoor
open Go.RowKit
set_option linter.unusedSimpArgs false
set_option linter.unusedVariables false
theorem NodesAt.nms {w : World} {B n c : Nat} {A : Option Addr} {L : List Nd} (h : NodesAt w B A n c L) : ∀ (k : Nat) (d : Nd), L[k]? = some d → d.nm.size ≤ 1048576 := by
  intro k d hd
  have hk := (List.getElem?_eq_some_iff.1 hd).1
  have hl := h.1
  obtain ⟨ad, -, -, hc⟩ := h.2.2.2.2 (by omega)
  exact (hc k d hd).2
set_option maxHeartbeats 8000000 in
set_option maxRecDepth 100000 in
theorem w_FnNodeTables (a0 : Option Addr) (len0 cap0 : Nat) (z0 : List Int) (w : World) (w0 : ArgBytes w a0 len0 cap0 z0) :
    Calls Tryd.prog 10 #[.slice a0 len0 cap0] w fun e w' => e = .returned (.bool true) ∧ Below w.heap.size w w' := by
  by_cases hbig : 4096 < len0
  · clear w0
    have hb : decide ((4096 : Int) < len0) = true := by simp; omega
    go_enter Tryd.func10, Tryd.ntmps10
    go_wp2_with (go_at_call 38; refine (h_big _ _ _ _).mono ?_; rintro e w' ⟨rfl, rfl⟩)
    go_ret
    exact ⟨rfl, Below.refl _ _⟩
  have hI := w0.2.2 (by omega)
  have hb : decide ((4096 : Int) < len0) = false := by simp; omega
  clear w0
  go_enter Tryd.func10, Tryd.ntmps10
  go_wp2_with (go_at_call 38; refine (h_big _ _ _ _).mono ?_; rintro e w' ⟨rfl, rfl⟩)
  refine (s_DrawNodeTableBytes _ _ _ _ _ _ hI (Nat.le_refl _)).mono ?_
  rintro e w1 ⟨A, n, c, L, rfl, N1, hn7, B1⟩
  obtain rfl := N1.1
  have z1 := B1.size
  have HLn := Lib.hid N1.nms
  have HNO := Lib.hid (fun h => ntb_no (L := L) h)
  have HOK := Lib.hid (fun h => ntb_ok (L := L) rfl h)
  have HRB := Lib.hid (fun h => rn_back (L := L) h)
  have HTI := Lib.hid (fun B W hh hB => i_IsNodeTable A L.length c L B W hh hB)
  have HTS := Lib.hid (fun B W hh hB => s_IsNodeTable A L.length c L B W hh hB)
  have HBI := Lib.hid (fun B W hh hB => i_NodeTableBytes A L.length c L B W hh hB)
  have HBS := Lib.hid (fun B W hh hB => s_NodeTableBytes A L.length c L B W hh hB)
  have hel := ntbL_len L
  generalize ntbL L = E at *
  generalize ntbC L = C at *
  generalize hokd : ntOk L = ok at *
  clear hokd
  have hbb : (ok != ok) = false := by simp
  have hcc : (C != C) = false := by simp
  have hee := eqL_refl E
  go_wp2_with fail
  refine (HBI.out _ w1 N1 (Nat.le_refl _)).mono ?_
  rintro e w2 ⟨v, rfl, O2, b2⟩
  obtain ⟨A2, c2, rfl, I2⟩ := O2.ints (by omega)
  have N2 := N1.below' (Nat.le_refl _) b2
  have z12 := b2.size
  have B2 := B1.trans (b2.mono z1)
  have z2 := B2.size
  clear N1 B1 b2
  go_wp2_with fail
  refine (HBS.out _ w2 N2 z12).mono ?_
  rintro e w3 ⟨v3, rfl, O3, K3⟩
  obtain ⟨A3, c3, rfl, I3⟩ := O3.ints (by omega)
  have z3 := K3.size
  clear O3 HBI HBS
  go_wp2_with fail
  refine (s_DrawReadNodeTable _ _ _ _ _ w3 (hI.below' (Nat.le_refl _) (B2.trans (K3.mono z2))) (by omega)).mono ?_
  rintro e w4 ⟨A4, n4, c4, xs, rfl, I4, b4⟩
  have K4 := K3.trans (b4.mono z3)
  have I34 := I3.below b4
  have z34 := b4.size
  have hx4 := I4.len
  have hx4' := I4.le
  have HA := Lib.hid (fun h => rn_again (xs := xs) h)
  obtain ⟨hM, hMn⟩ := rnL_small xs
  have HRI := Lib.hid (fun B W hh hB => i_ReadNodeTable A4 n4 c4 xs B W hh hB)
  have HRS := Lib.hid (fun B W hh hB => s_ReadNodeTable A4 n4 c4 xs B W hh hB)
  generalize rnL xs = M at *
  generalize rnP xs = P at *
  generalize rnC xs = D at *
  have HMn := Lib.hid hMn
  clear hMn b4 I3 K3 hI
  go_wp2_with fail
  refine (HRI.out _ w4 I4 (Nat.le_refl _)).mono ?_
  rintro e w5 ⟨v5, rfl, O5, b5⟩
  obtain ⟨A5, c5, rfl, N5⟩ := O5.nodes (by omega) HMn.out
  have K5 := K4.trans (b5.mono (by omega))
  have I35 := I34.below' (by omega) b5
  have I45 := I4.below b5
  have z45 := b5.size
  clear b5 I34 I4 K4 O5
  go_wp2_with fail
  refine (HRS.out _ w5 I45 z45).mono ?_
  rintro e w6 ⟨v6, rfl, O6, b6⟩
  obtain ⟨A6, c6, rfl, N6⟩ := O6.nodes (by omega) HMn.out
  have K6 := K5.trans (b6.mono (by omega))
  have I36 := I35.below' (by omega) b6
  have I46 := I45.below' z45 b6
  have N56 := N5.below' (Nat.le_refl _) b6
  have z56 := b6.size
  clear b6 I35 I45 K5 O6 HRI HRS N5
  have hdd : (D != D) = false := by simp
  have hpp : ((P : Int) != (P : Int)) = false := by simp
  go_wp2_with fail
  refine (h_likeInts _ _ _ _ _ _ _ _ _ _ w6 (I2.below' (Nat.le_refl _) K6) I36).mono ?_
  rintro e w7 ⟨rfl, m7, rfl⟩
  rw [hee]
  have K7 := below_drewN K6 m7
  have I47 := I46.drewN m7
  have N57 := N56.drewN m7
  have N67 := N6.drewN m7
  have z67 : w6.heap.size = (w6.drewN m7).heap.size := rfl
  generalize w6.drewN m7 = w7 at *
  clear K6 I46 N56 N6 I36
  go_wp2_with fail
  refine (h_likeNodes _ _ _ _ _ _ _ _ w7 N57 N67).mono ?_
  rintro e w8 ⟨rfl, m8, rfl⟩
  have K8 := below_drewN K7 m8
  have I48 := I47.drewN m8
  have N58 := N57.drewN m8
  have z78 : w7.heap.size = (w7.drewN m8).heap.size := rfl
  generalize w7.drewN m8 = w8 at *
  clear K7 I47 N57 N67
  go_wp2_with fail
  refine (HTI.out _ w8 (N2.below' z12 K8) (by omega)).mono ?_
  rintro e w9 ⟨rfl, b9⟩
  have K9 := K8.trans (b9.mono (by omega))
  have I49 := I48.below' (by omega) b9
  have N59 := N58.below' (by omega) b9
  have z89 := b9.size
  clear b9 K8 I48 N58
  go_wp2_with fail
  refine (HTS.out _ w9 (N2.below' z12 K9) (by omega)).mono ?_
  rintro e wa ⟨rfl, ba⟩
  have Ka := K9.trans (ba.mono (by omega))
  have I4a := I49.below' (by omega) ba
  have N5a := N59.below' (by omega) ba
  have z9a := ba.size
  clear ba K9 I49 N59 HTI HTS
  by_cases hD : D = 0
  · subst hD
    obtain ⟨hA1, hA2, hA3⟩ := HA.out rfl
    have HB := Lib.hid (fun B W hh hB => i_NodeTableBytes A5 M.length c5 M B W hh hB)
    obtain ⟨q1, q2⟩ := ntb_ok (L := M) rfl hA1
    rw [q1, q2] at HB
    have hem := encK_len (L := M) (fun k d hd => ndOk_nm (ntOk_nd hA1 hd)) M.length
    generalize encK M M.length = F at *
    clear q1 q2 hA1 HA
    go_wp2_with fail
    refine (HB.out _ wa N5a (by omega)).mono ?_
    rintro e wb ⟨vb, rfl, Ob, bb⟩
    obtain ⟨Ab, cb, rfl, Ib⟩ := Ob.ints (by omega)
    have Kb := Ka.trans (bb.mono (by omega))
    have I4b := (I4a.below' (by omega) bb).cutTo P (by omega)
    have zab := bb.size
    have hP0 : (0 : Int) ≤ (P : Int) := by omega
    have hPc : (P : Int) ≤ (c4 : Int) := by omega
    have hA2' : eqL F (xs.take P) = true := hA2
    clear bb Ob HB N5a I4a Ka
    go_wp2_with fail
    refine (h_likeInts _ _ _ _ _ _ _ _ _ _ wb Ib I4b).mono ?_
    rintro e wc ⟨rfl, mc, rfl⟩
    rw [hA2']
    have Kc := below_drewN Kb mc
    have zbc : wb.heap.size = (wb.drewN mc).heap.size := rfl
    generalize wb.drewN mc = wc at *
    clear Kb Ib I4b
    cases ok
    · obtain ⟨r1, r2⟩ := HNO.out rfl
      subst r2
      have HB := Lib.hid (B2.trans (Kc.mono z2))
      clear HOK HRB
      go_wp2
      go_ret
      exact ⟨rfl, HB.out⟩
    · obtain ⟨r1, r2⟩ := HOK.out rfl
      subst r2
      have hback := HRB.out rfl
      rw [← r1] at hback
      have zc := Kc.size
      have Oc := O2.below_ Kc
      have Ic := I2.below' (Nat.le_refl _) Kc
      clear HNO HOK HRB r1
      have HRd := Lib.hid (fun A' n' c' W hh => by have := i_ReadNodeTable A' n' c' (E ++ [1, 2]) _ W hh (Nat.le_refl _); rw [hback.1, hback.2.1, hback.2.2] at this; exact this)
      have hel2 : (E ++ [(1 : Int), 2]).length = E.length + 2 := by simp
      have hee2 : ((E.length : Int) == (E.length : Int)) = true := by simp
      clear hback
      go_wp2_with (first
        | (at_builtin; refine wpList_app _ rfl _ _ 22 rfl wc.heap.size Tryd.underlying22 int_info _ [] rfl (lit_own wc [] _ (Nat.le_refl _) (by simp)) _ _ _ _ E rfl (Ic.alloc (by omega) _) (by simp; omega) (by simp) ?_; intro v' w' O' g' _; rw [List.nil_append] at O'; have bv : Below wc.heap.size wc w' := ((Below.refl _ _).alloc (Nat.le_refl _) _).grown g' (by simp) (fun k hk => ((lit_own wc [] _ (Nat.le_refl _) (by simp)).lt k hk).1); have zv := bv.size; clear g')
        | (at_builtin; refine wpList_app _ rfl _ _ 22 rfl wc.heap.size Tryd.underlying22 int_info _ E rfl (O'.alloc _) _ _ 2 2 [1, 2] rfl (lit_ints w' [1, 2] 2 (by simp)) (by omega) (by rw [World.size_alloc]; omega) ?_; intro v'' w'' O'' g'' _; have bw := app_below' bv (Nat.le_refl _) zv O' g''; have zw := bw.size; clear g''))
      obtain ⟨A9, c9, rfl, I9⟩ := O''.ints (by omega)
      refine (HRd.out _ _ _ _ I9).mono ?_
      rintro e wr ⟨vr, rfl, Or, br⟩
      obtain ⟨Ar, cr, rfl, Nr⟩ := Or.nodes (by omega) HLn.out
      have Kr := Kc.trans ((bw.trans (br.mono zw)).mono zc)
      clear bw bv O' O'' I9 Or br HRd Oc Ic
      go_wp2_with fail
      refine (h_likeNodes _ _ _ _ _ _ _ _ wr Nr (N2.below' z12 Kr)).mono ?_
      rintro e ws ⟨rfl, ms, rfl⟩
      have HB := Lib.hid (B2.trans ((below_drewN Kr ms).mono z2))
      go_wp2
      go_ret
      exact ⟨rfl, HB.out⟩
  · have hD' : (D == 0) = false := by simpa using hD
    have Kc := Ka
    have zac : wa.heap.size ≤ wa.heap.size := Nat.le_refl _
    clear Ka N5a I4a HA
    generalize wa = wc at *
    cases ok
    · obtain ⟨r1, r2⟩ := HNO.out rfl
      subst r2
      have HB := Lib.hid (B2.trans (Kc.mono z2))
      clear HOK HRB
      go_wp2
      go_ret
      exact ⟨rfl, HB.out⟩
    · obtain ⟨r1, r2⟩ := HOK.out rfl
      subst r2
      have hback := HRB.out rfl
      rw [← r1] at hback
      have zc := Kc.size
      have Oc := O2.below_ Kc
      have Ic := I2.below' (Nat.le_refl _) Kc
      clear HNO HOK HRB r1
      have HRd := Lib.hid (fun A' n' c' W hh => by have := i_ReadNodeTable A' n' c' (E ++ [1, 2]) _ W hh (Nat.le_refl _); rw [hback.1, hback.2.1, hback.2.2] at this; exact this)
      have hel2 : (E ++ [(1 : Int), 2]).length = E.length + 2 := by simp
      have hee2 : ((E.length : Int) == (E.length : Int)) = true := by simp
      clear hback
      go_wp2_with (first
        | (at_builtin; refine wpList_app _ rfl _ _ 22 rfl wc.heap.size Tryd.underlying22 int_info _ [] rfl (lit_own wc [] _ (Nat.le_refl _) (by simp)) _ _ _ _ E rfl (Ic.alloc (by omega) _) (by simp; omega) (by simp) ?_; intro v' w' O' g' _; rw [List.nil_append] at O'; have bv : Below wc.heap.size wc w' := ((Below.refl _ _).alloc (Nat.le_refl _) _).grown g' (by simp) (fun k hk => ((lit_own wc [] _ (Nat.le_refl _) (by simp)).lt k hk).1); have zv := bv.size; clear g')
        | (at_builtin; refine wpList_app _ rfl _ _ 22 rfl wc.heap.size Tryd.underlying22 int_info _ E rfl (O'.alloc _) _ _ 2 2 [1, 2] rfl (lit_ints w' [1, 2] 2 (by simp)) (by omega) (by rw [World.size_alloc]; omega) ?_; intro v'' w'' O'' g'' _; have bw := app_below' bv (Nat.le_refl _) zv O' g''; have zw := bw.size; clear g''))
      obtain ⟨A9, c9, rfl, I9⟩ := O''.ints (by omega)
      refine (HRd.out _ _ _ _ I9).mono ?_
      rintro e wr ⟨vr, rfl, Or, br⟩
      obtain ⟨Ar, cr, rfl, Nr⟩ := Or.nodes (by omega) HLn.out
      have Kr := Kc.trans ((bw.trans (br.mono zw)).mono zc)
      clear bw bv O' O'' I9 Or br HRd Oc Ic
      go_wp2_with fail
      refine (h_likeNodes _ _ _ _ _ _ _ _ wr Nr (N2.below' z12 Kr)).mono ?_
      rintro e ws ⟨rfl, ms, rfl⟩
      have HB := Lib.hid (B2.trans ((below_drewN Kr ms).mono z2))
      go_wp2
      go_ret
      exact ⟨rfl, HB.out⟩
end Go.Proofs.YtgenfffgenddmaaDoor

/- The walk of the law on ReadNodeTable. -/
import Derived.Test.YtgenfffgenddmaaDoorRn
import Derived.Test.YtgenfffgenddmaaDoorNod16
namespace Go.Proofs.YtgenfffgenddmaaDoor
open Go.RowKit
set_option linter.unusedSimpArgs false
set_option linter.unusedVariables false
theorem dig_size : ∀ (f : Nat) (x : Int) (s : ByteArray), (dig f x s).size ≤ f + s.size
  | 0, _, s => by simp [dig]
  | f + 1, x, s => by
    unfold dig
    split
    · have := dig_size f (x / 10) (⟨#[UInt8.ofNat (48 + x % 10).toNat]⟩ ++ s)
      rw [ByteArray.size_append] at this
      have e : (⟨#[UInt8.ofNat (48 + x % 10).toNat]⟩ : ByteArray).size = 1 := rfl
      omega
    · omega
theorem markTx_size (m : Int) : (markTx m).size ≤ 30 := by
  unfold markTx
  split
  · exact Nat.le_of_ble_eq_true rfl
  · have := dig_size 12 m ⟨#[]⟩
    have e : (⟨#[]⟩ : ByteArray).size = 0 := rfl
    have e1 : (⟨#[109]⟩ : ByteArray).size = 1 := rfl
    rw [ByteArray.size_append]
    omega
theorem mkL_nm (m : Int) (n : Nat) : ∀ (k : Nat) (d : Nd), (mkL m n)[k]? = some d → d.nm.size ≤ 1048576 := by
  intro k d hd
  have hk := (List.getElem?_eq_some_iff.1 hd).1
  rw [mkL_len] at hk
  rw [mkL_get hk] at hd
  injection hd with hd
  subst hd
  have := markTx_size (m + 4 * k + 1)
  show (markTx (m + 4 * k + 1)).size ≤ 1048576
  omega
set_option maxHeartbeats 4000000 in
theorem w_FnExactReadNodeTable (a0 : Option Addr) (len0 cap0 : Nat) (z0 : List Int) (w : World) (w0 : ArgInts w a0 len0 cap0 z0) :
    Calls Tryd.prog 3 #[.slice a0 len0 cap0] w fun e w' => e = .returned (.bool true) ∧ Below w.heap.size w w' := by
  by_cases hbig : 1048576 < len0
  · clear w0
    go_enter Tryd.func3, Tryd.ntmps3
    go_wp2
    go_ret
    exact ⟨rfl, Below.refl _ _⟩
  have hI := w0.2.2.2.2 (by omega)
  clear w0
  have hzl : z0.length ≤ 16777216 := by rw [hI.len]; exact hI.small
  obtain ⟨hL, hN⟩ := rnL_small z0
  have HS := Lib.hid (fun A n c B W hh hB => s_ReadNodeTable A n c z0 B W hh hB)
  have HI := Lib.hid (fun A n c B W hh hB => i_ReadNodeTable A n c z0 B W hh hB)
  generalize rnL z0 = L at *
  generalize rnP z0 = P at *
  generalize rnC z0 = C at *
  have HN := Lib.hid hN
  clear hN
  have hpd : ((P : Int) != (P : Int)) = false := by simp
  have hcd : (C != C) = false := by simp
  have hez := eqL_refl z0
  go_enter Tryd.func3, Tryd.ntmps3
  go_wp2_with fail
  refine (h_toInt64S _ _ _ _ _ _ hI (Nat.le_refl _)).mono ?_
  rintro e w1 ⟨vs, rfl, hos, hbs⟩
  obtain ⟨As, cs, rfl, hs⟩ := hos.ints hzl
  have hI1 := hI.below hbs
  have z1 := hbs.size
  go_wp2_with fail
  refine (HS.out _ _ _ _ _ hs (Nat.le_refl _)).mono ?_
  rintro e w2 ⟨v0, rfl, ho0, hb0⟩
  obtain ⟨A0, c0, rfl, h0⟩ := ho0.nodes (by omega) HN.out
  have hI2 := hI1.below' z1 hb0
  have hB2 := hbs.trans (hb0.mono z1)
  have z2 := hB2.size
  clear hos hs ho0 hb0 hbs hI1 z1
  go_wp2_with fail
  refine (h_toInt64S _ _ _ _ _ _ hI2 z2).mono ?_
  rintro e w3 ⟨vx, rfl, hox, K3⟩
  obtain ⟨Ax, cx, rfl, hx⟩ := hox.ints hzl
  have z3 := K3.size
  go_wp2_with fail
  refine (HI.out _ _ _ _ _ hx (Nat.le_refl _)).mono ?_
  rintro e w4 ⟨v1, rfl, ho1, hb1⟩
  obtain ⟨A1, c1, rfl, h1⟩ := ho1.nodes (by omega) HN.out
  have K4 := K3.trans (hb1.mono z3)
  have h04 := h0.below' (Nat.le_refl _) K4
  have hox4 := hox.below_ hb1
  have z34 := hb1.size
  have z4 := K4.size
  have hxl := hox.lt
  have h1l := ho1.lt
  clear hb1 hx K3 hox
  go_wp2_with fail
  refine (h_eqNodeInfoS _ _ _ _ _ L _ _ w4 h1 h04 (Nat.le_refl _) (by omega)).mono ?_
  rintro e w5 ⟨rfl, b5⟩
  have K5 := K4.trans (b5.mono z4)
  have z45 := b5.size
  have hox5 := hox4.below_ b5
  have ho15 := ho1.below_ b5
  clear h1 h04 b5 K4 hox4 ho1
  go_wp2_with fail
  refine (h_toInt64S _ _ _ _ _ _ (hI2.below' z2 K5) (by omega)).mono ?_
  rintro e w6 ⟨vt, rfl, hot, b6⟩
  obtain ⟨At, ct, rfl, ht⟩ := hot.ints hzl
  have K6 := K5.trans (b6.mono (by omega))
  have z56 := b6.size
  have hox6 := hox5.below_ b6
  have ho16 := ho15.below_ b6
  obtain ⟨Ax', cx', ex, hx6⟩ := hox6.ints hzl
  injection ex with ex1 ex2 ex3
  subst ex1 ex3
  clear b6 hot K5 hox5 ho15 ex2
  go_wp2_with fail
  refine (h_eqInt64S _ _ _ _ _ _ _ _ _ _ _ hx6 ht).mono ?_
  rintro e w7 ⟨rfl, m7, rfl⟩
  rw [hez]
  clear hx6 ht
  have K7 := below_drewN K6 m7
  have hox7 := hox6.drewN m7
  have ho17 := NOwn.below_ ho16 (below_drewN (Below.refl w6.heap.size w6) m7)
  have z67 : w6.heap.size = (w6.drewN m7).heap.size := rfl
  generalize w6.drewN m7 = w7 at *
  clear K6 hox6 ho16
  go_wp2_with fail
  refine (h_markInt64S _ _ _ 1 _ hox7 (by omega) (by omega) hzl).mono ?_
  rintro e w8 ⟨rfl, ho8, hg8⟩
  have K8 := K7.trans (grown_below hg8 (by omega) (fun g hg => (hxl g hg).1))
  have ho18 := World.ownsRow.kept ho17 hg8 (by
    rcases hq : (Value.slice A1 L.length c1).ownBlock with _ | g1
    · exact .inl rfl
    · refine .inr (fun e => ?_)
      have q1 := h1l g1 hq
      have q2 := hxl g1 e.symm
      omega)
  have z78 := hg8.size
  have hy1 : ¬ (1 + (z0.length : Int) < 0) := by omega
  have hy1' : decide (1 + (z0.length : Int) < 0) = false := by simpa using hy1
  clear K7 ho17 hox7 ho8 hg8
  have ho18' : NOwn w8 w3.heap.size (.slice A1 L.length c1) L := ho18
  obtain ⟨A1', c1', e1, h18⟩ := ho18'.nodes (by omega) HN.out
  injection e1 with e11 e12 e13
  subst e11 e13
  clear e12 ho18
  go_wp2_with fail
  refine (h_eqNodeInfoS _ _ _ _ _ L _ _ w8 h18 (h0.below' (Nat.le_refl _) K8) (Nat.le_refl _) (by omega)).mono ?_
  rintro e w9 ⟨rfl, b9⟩
  have K9 := K8.trans (b9.mono (by omega))
  have ho19 := ho18'.below_ b9
  have z89 := b9.size
  clear b9 K8 ho18' h18
  go_wp2_with fail
  refine (h_markNodesN _ L _ 1 _ ho19 (by omega) (by omega) (by omega)).mono ?_
  rintro e w10 ⟨rfl, ho110, hg10⟩
  have K10 := K9.trans (grown_below hg10 (by omega) (fun g hg => by have := (h1l g hg).1; omega))
  have z910 := hg10.size
  obtain ⟨A2, c2, e2, h110⟩ := ho110.nodes (by rw [mkL_len]; omega) (mkL_nm 1 L.length)
  rw [mkL_len] at e2 h110
  injection e2 with e21 e22 e23
  subst e21 e23
  clear e22 K9 ho19 hg10
  go_wp2_with fail
  refine (h_heldNodesN _ _ _ _ 1 _ h110 (Nat.le_refl _) (by omega) (by omega)).mono ?_
  rintro e w11 ⟨rfl, b11⟩
  have K11 := K10.trans (b11.mono (by omega))
  have h111 := h110.below' (Nat.le_refl _) b11
  have z1011 := b11.size
  have hy2 : decide (1 + 4 * (L.length : Int) < 0) = false := by simp; omega
  clear b11 K10 ho110 h110
  go_wp2_with fail
  refine (h_toInt64S _ _ _ _ _ _ (hI2.below' z2 K11) (by omega)).mono ?_
  rintro e w12 ⟨vy, rfl, hoy, b12⟩
  obtain ⟨Ay, cy, rfl, hy⟩ := hoy.ints hzl
  have K12 := K11.trans (b12.mono (by omega))
  have h112 := h111.below' (by omega) b12
  have z1112 := b12.size
  clear b12 K11 h111 hoy
  go_wp2_with fail
  refine (HI.out _ _ _ _ _ hy (Nat.le_refl _)).mono ?_
  rintro e w13 ⟨v2, rfl, ho2, b13⟩
  obtain ⟨A2, c2, rfl, h2⟩ := ho2.nodes (by omega) HN.out
  have K13 := K12.trans (b13.mono (by omega))
  have h113 := h112.below' (by omega) b13
  have z1213 := b13.size
  clear b13 K12 h112 ho2 hy
  go_wp2_with fail
  refine (h_eqNodeInfoS _ _ _ _ _ L _ _ w13 h2 (h0.below' (Nat.le_refl _) K13) (Nat.le_refl _) (by omega)).mono ?_
  rintro e w14 ⟨rfl, b14⟩
  have K14 := K13.trans (b14.mono (by omega))
  have h114 := h113.below' (by omega) b14
  have z1314 := b14.size
  clear b14 K13 h113 h2
  go_wp2_with fail
  refine (h_heldNodesN _ _ _ _ 1 _ h114 (by omega) (by omega) (by omega)).mono ?_
  rintro e w15 ⟨rfl, b15⟩
  have HB := Lib.hid (hB2.trans ((K14.trans (b15.mono (by omega))).mono z2))
  go_wp2
  go_ret
  exact ⟨rfl, HB.out⟩
end Go.Proofs.YtgenfffgenddmaaDoor

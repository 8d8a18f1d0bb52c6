/- NodeTableBytes, both texts, and the walk of its law. -/
import Derived.Test.YtgenfffgenddmaaDoorNod11
import Derived.Test.YtgenfffgenddmaaDoorNod12
import Derived.Test.YtgenfffgenddmaaDoorWNtb
namespace Go.Proofs.YtgenfffgenddmaaDoor
open Go.RowKit
set_option linter.unusedSimpArgs false
set_option linter.unusedVariables false
def ntbL (L : List Nd) : List Int := if ntOk L = true then encK L L.length else []
def ntbC (L : List Nd) : Int := if ntOk L = true then 0 else 1
theorem ntb_no {L : List Nd} (h : ntOk L = false) : ntbL L = [] ∧ ntbC L = 1 := by simp [ntbL, ntbC, h]
theorem ntb_ok {L : List Nd} {n : Nat} (hl : L.length = n) (h : ntOk L = true) : ntbL L = encK L n ∧ ntbC L = 0 := by subst hl; simp [ntbL, ntbC, h]
theorem ntbL_len (L : List Nd) : (ntbL L).length ≤ 400 := by
  cases h : ntOk L
  · rw [(ntb_no h).1]; simp
  · rw [(ntb_ok rfl h).1]
    have := encK_len (L := L) (fun k d hd => ndOk_nm (ntOk_nd h hd)) L.length
    have := (ntOk_split h).1
    omega
theorem own_low {w : World} {b b' : Nat} {v : Value} {xs : List Int} (h : IOwn w b v xs) (hb : b' ≤ b) : IOwn w b' v xs :=
  ⟨h.1, h.2.imp id fun ⟨g, cap, cur, e, hg, r⟩ => ⟨g, cap, cur, e, Nat.le_trans hb hg, r⟩⟩
theorem s_NodeTableBytes (A : Option Addr) (n c : Nat) (L : List Nd) (B : Nat) (w : World) (h : NodesAt w B A n c L) (hB : B ≤ w.heap.size) :
    Calls Tryd.prog 35 #[.slice A n c] w fun e w' => ∃ v, e = .returned (.tuple #[v, .int .i64 (ntbC L)]) ∧ IOwn w' w.heap.size v (ntbL L) ∧ Below w.heap.size w w' := by
  have hl := h.1
  have hT := Lib.hid (s_IsNodeTable A n c L B w h hB)
  cases ho : ntOk L
  · have hX := Lib.hid (ntb_no ho)
    rw [ho] at hT
    clear ho hl h
    rw [hX.out.1, hX.out.2]
    go_enter Tryd.func35, Tryd.ntmps35
    go_wp2_with fail
    refine hT.out.mono ?_
    rintro e w1 ⟨rfl, b1⟩
    go_wp2
    go_ret2
    exact ⟨_, rfl, IOwn.nil _ _, b1⟩
  rw [ho] at hT
  have hX := Lib.hid (ntb_ok hl ho)
  have hV := Lib.hid (fun (W : World) (hw : Below w.heap.size w W) => s_l10Bytes A n c L B W (h.below' hB hw) (Nat.le_trans hB hw.size) ho)
  rw [hX.out.1, hX.out.2]
  clear ho hl h
  go_enter Tryd.func35, Tryd.ntmps35
  go_wp2_with fail
  refine hT.out.mono ?_
  rintro e w1 ⟨rfl, b1⟩
  go_wp2_with fail
  refine (hV.out w1 b1).mono ?_
  rintro e w2 ⟨v, rfl, O2, b2⟩
  go_wp2
  go_ret2
  exact ⟨_, rfl, own_low O2 b1.size, b1.trans (b2.mono b1.size)⟩
theorem i_NodeTableBytes (A : Option Addr) (n c : Nat) (L : List Nd) (B : Nat) (w : World) (h : NodesAt w B A n c L) (hB : B ≤ w.heap.size) :
    Calls Tryd.prog 36 #[.slice A n c] w fun e w' => ∃ v, e = .returned (.tuple #[v, .int .i64 (ntbC L)]) ∧ IOwn w' w.heap.size v (ntbL L) ∧ Below w.heap.size w w' := by
  have hl := h.1
  have hT := Lib.hid (i_IsNodeTable A n c L B w h hB)
  cases ho : ntOk L
  · have hX := Lib.hid (ntb_no ho)
    rw [ho] at hT
    clear ho hl h
    rw [hX.out.1, hX.out.2]
    go_enter Tryd.func36, Tryd.ntmps36
    go_wp2_with fail
    refine hT.out.mono ?_
    rintro e w1 ⟨rfl, b1⟩
    go_wp2
    go_ret2
    exact ⟨_, rfl, IOwn.nil _ _, b1⟩
  rw [ho] at hT
  have hX := Lib.hid (ntb_ok hl ho)
  have hV := Lib.hid (fun (W : World) (hw : Below w.heap.size w W) => i_nodeTableBytes A n c L B W (h.below' hB hw) (Nat.le_trans hB hw.size) ho)
  rw [hX.out.1, hX.out.2]
  clear ho hl h
  go_enter Tryd.func36, Tryd.ntmps36
  go_wp2_with fail
  refine hT.out.mono ?_
  rintro e w1 ⟨rfl, b1⟩
  go_wp2_with fail
  refine (hV.out w1 b1).mono ?_
  rintro e w2 ⟨v, rfl, O2, b2⟩
  go_wp2
  go_ret2
  exact ⟨_, rfl, own_low O2 b1.size, b1.trans (b2.mono b1.size)⟩
theorem h_toNodesO (A : Option Addr) (n c : Nat) (L : List Nd) (B : Nat) (w : World) (h : NodesAt w B A n c L) (hB : B ≤ w.heap.size) :
    Calls Tryd.prog 26 #[.slice A n c] w fun e w' => ∃ A' c', e = .returned (.slice A' n c') ∧ NOwn w' w.heap.size (.slice A' n c') L ∧ NodesAt w' w'.heap.size A' n c' L ∧ Below w.heap.size w w' := by
  have hl := h.1
  refine (h_toNodeInfoS A n c L B w h hB).mono ?_
  rintro e w' ⟨v, rfl, ho, hb⟩
  obtain ⟨A', c', rfl, hN⟩ := ho.nodes (by rw [hl]; exact h.2.2.1) (fun k d hd => by
    have hk := (List.getElem?_eq_some_iff.1 hd).1
    obtain ⟨ad, _, _, hc⟩ := h.2.2.2.2 (by omega)
    exact (hc k d hd).2)
  rw [hl] at hN ho ⊢
  exact ⟨A', c', rfl, ho, hN, hb⟩
set_option maxHeartbeats 2000000 in
theorem w_FnExactNodeTableBytes (a0 : Option Addr) (len0 cap0 : Nat) (z0 : List Nd) (w : World) (w0 : ArgNodes w a0 len0 cap0 z0) :
    Calls Tryd.prog 9 #[.slice a0 len0 cap0] w fun e w' => e = .returned (.bool true) ∧ Below w.heap.size w w' := by
  have hS := Lib.hid (h_szNodeInfoS a0 len0 cap0 z0 w w0)
  have hM := Lib.hid (fun h1 h2 => w0.nodes h1 h2)
  have hzl0 := w0.1
  clear w0
  have hLL := ntbL_len z0
  generalize hgL : ntbL z0 = L at hLL
  generalize hgC : ntbC z0 = C
  have HL := Lib.hid hgL; have HCC := Lib.hid hgC; clear hgL hgC
  have hL : L.length ≤ 16777216 := by omega
  have he := eqL_refl L
  have hcd : (C != C) = false := by simp
  have HS := Lib.hid (fun A n c B W hh hB => by have := s_NodeTableBytes A n c z0 B W hh hB; rw [HL.out, HCC.out] at this; exact this)
  have HI := Lib.hid (fun A n c B W hh hB => by have := i_NodeTableBytes A n c z0 B W hh hB; rw [HL.out, HCC.out] at this; exact this)
  clear HL HCC
  go_enter Tryd.func9, Tryd.ntmps9
  go_wp2_with fail
  refine hS.out.mono ?_
  rintro e w1 ⟨x, rfl, hx, b1⟩
  have HX := Lib.hid hx
  clear hx hS
  by_cases h0 : x < 0
  · go_wp2
    go_ret
    exact ⟨rfl, b1⟩
  · have hx0 : decide (x < 0) = false := by simpa using h0
    obtain ⟨q1, q2⟩ := HX.out (by omega)
    have hI1 := (hM.out q1 q2).below' (Nat.le_refl _) b1
    have z1 := b1.size
    have hzl : z0.length ≤ 1048576 := by omega
    clear hM HX h0 q2
    go_wp2_with fail
    refine (h_toNodes a0 len0 cap0 z0 _ w1 hI1 z1).mono ?_
    rintro e w1' ⟨As, cs, rfl, hs, hbs⟩
    have hI1' := hI1.below' z1 hbs
    have B1' := b1.trans (hbs.mono z1)
    have z1' := B1'.size
    clear hI1 b1 hbs z1
    go_wp2_with fail
    refine (HS.out _ _ _ _ _ hs (Nat.le_refl _)).mono ?_
    rintro e w2 ⟨v0, rfl, ho0, hb0⟩
    obtain ⟨A0, c0, rfl, h0⟩ := ho0.ints hL
    have hI2 := hI1'.below' z1' hb0
    have hB2 := B1'.trans (hb0.mono z1')
    have z2 := hB2.size
    clear hs ho0 hb0 hI1' B1' z1'
    go_wp2_with fail
    refine (h_toNodesO a0 len0 cap0 z0 _ w2 hI2 z2).mono ?_
    rintro e w3 ⟨Ax, cx, rfl, hox, hx, hbx⟩
    have hI3 := hI2.below' z2 hbx
    have h03 := h0.below hbx
    have z3 := hbx.size
    have hB3 := hB2.trans (hbx.mono z2)
    clear hbx hB2 hI2
    go_wp2_with fail
    refine (HI.out _ _ _ _ _ hx (Nat.le_refl _)).mono ?_
    rintro e w4 ⟨v1, rfl, ho1, hb1⟩
    obtain ⟨A1, c1, rfl, h1⟩ := ho1.ints hL
    have hI4 := hI3.below' (by omega) hb1
    have h04 := h03.below' z3 hb1
    have hx4 := hx.below' (Nat.le_refl _) hb1
    have hox4 := hox.below_ hb1
    have z4 := hb1.size
    have hB4 := hB3.trans (hb1.mono (by omega))
    clear hb1 hB3 hx hI3
    go_wp2_with fail
    refine (h_eqInt64S _ _ _ _ _ _ _ _ _ _ _ h1 h04).mono ?_
    rintro e w5 ⟨rfl, m5, rfl⟩
    go_wp2_with fail
    refine (h_toNodes a0 len0 cap0 z0 _ (w4.drewN m5) (hI4.drewN m5) (by simp; omega)).mono ?_
    rintro e w6 ⟨At, ct, rfl, ht, hbt⟩
    have hbt' : Below w4.heap.size (w4.drewN m5) w6 := hbt
    have hI6 := (hI4.drewN m5).below' (by omega) hbt'
    have h06 := (h04.drewN m5).below' (by omega) hbt'
    have hx6 := (hx4.drewN m5).below' (by omega) hbt'
    have hox6 : NOwn w6 w2.heap.size (.slice Ax len0 cx) z0 := NOwn.below_ (w := w4.drewN m5) hox4 hbt'
    have ho16 := (ho1.drewN m5).below_ hbt'
    have z6 : w4.heap.size ≤ w6.heap.size := hbt'.size
    have hB6 := (below_drewN hB4 m5).trans (hbt'.mono (by omega))
    clear hbt hbt' hB4 hox4 hx4 h04 hI4
    go_wp2_with fail
    refine (h_eqNodeInfoS _ _ _ _ _ z0 _ _ w6 hx6 ht (by omega) (Nat.le_refl _)).mono ?_
    rintro e w7 ⟨rfl, b7⟩
    have hI7 := hI6.below' (by omega) b7
    have h07 := h06.below' (by omega) b7
    have hox7 := hox6.below_ b7
    have ho17 := ho16.below_ b7
    have z7 := b7.size
    have hB7 := hB6.trans (b7.mono hB6.size)
    clear ht hx6 hI6 h06 hox6 ho16 hB6 b7
    go_wp2_with fail
    refine (h_markNodeInfoS _ z0 _ 1 _ hox7 (by omega) (by omega) hzl).mono ?_
    rintro e w8 ⟨y, rfl, y0, hg8⟩
    have hy0 : decide (y < 0) = false := by simp; omega
    have hxl := hox.lt
    have h1l := ho1.lt
    have hI8 := hI7.grown hg8 (by omega) (fun g hg => by have := hxl g hg; omega)
    have h08 := h07.grown hg8 (by omega) (fun g hg => by have := hxl g hg; omega)
    have ho18 := ho17.kept hg8 (by
      rcases hq : (Value.slice A1 (L).length c1).ownBlock with _ | g1
      · exact .inl rfl
      · refine .inr (fun e => ?_)
        have q1 := h1l g1 hq
        have q2 := hxl g1 e.symm
        omega)
    have z8 : w7.heap.size ≤ w8.heap.size := hg8.size
    have hB8 := hB7.trans (grown_below hg8 (by omega) (fun g hg => by have := hxl g hg; omega))
    clear hg8 hox7 ho17 hB7 hI7 h07 h1 hox ho1 h0 h03 y0
    obtain ⟨A1', c1', e1, h18⟩ := ho18.ints hL
    injection e1 with e11 e12 e13
    subst e11 e13
    clear e12
    go_wp2_with fail
    refine (h_eqInt64S _ _ _ _ _ _ _ _ _ _ _ h18 h08).mono ?_
    rintro e w9 ⟨rfl, m9, rfl⟩
    go_wp2_with fail
    refine (h_markInt64S _ _ _ 1 _ (ho18.drewN m9) (by omega) (by omega) hL).mono ?_
    rintro e w10 ⟨rfl, ho10, hg10⟩
    have hg10' : w8.grownBy w10 (Value.slice A1 (L).length c1).ownBlock := ⟨hg10.os, hg10.tape, hg10.output, hg10.size, hg10.block⟩
    have hI10 := hI8.grown hg10' (by omega) (fun g hg => by have := h1l g hg; omega)
    have h010 := h08.grown hg10' (by omega) (fun g hg => by have := h1l g hg; omega)
    have z10 : w8.heap.size ≤ w10.heap.size := hg10'.size
    have hB10 := hB8.trans (grown_below hg10' (by omega) (fun g hg => by have := h1l g hg; omega))
    obtain ⟨A10, c10, e10, h10⟩ := ho10.ints (by rw [marksL_len]; exact hL)
    rw [marksL_len] at e10 h10
    injection e10 with e101 e102 e103
    subst e101 e103
    clear e102 hg10 hg10' ho18 h18 hI8 h08 hB8 ho10
    go_wp2_with fail
    refine (h_heldInt64S _ _ _ _ 1 _ h10 (by omega) (by omega)).mono ?_
    rintro e w10' ⟨rfl, rfl⟩
    go_wp2_with fail
    refine (h_toNodes a0 len0 cap0 z0 _ _ hI10 (by omega)).mono ?_
    rintro e w11 ⟨Ay, cy, rfl, hy, hby⟩
    have h011 := h010.below' (by omega) hby
    have h1011 := h10.below hby
    have z11 := hby.size
    have hB11 := hB10.trans (hby.mono (by omega))
    clear hby hB10 h10 h010
    go_wp2_with fail
    refine (HI.out _ _ _ _ _ hy (Nat.le_refl _)).mono ?_
    rintro e w12 ⟨v2, rfl, ho2, hb2⟩
    obtain ⟨A2, c2, rfl, h2⟩ := ho2.ints hL
    have h012 := h011.below' (by omega) hb2
    have h1012 := h1011.below' (by omega) hb2
    have hB12 := hB11.trans (hb2.mono (by omega))
    clear ho2 hb2 hB11 hy
    go_wp2_with fail
    refine (h_eqInt64S _ _ _ _ _ _ _ _ _ _ _ h2 h012).mono ?_
    rintro e w13 ⟨rfl, m13, rfl⟩
    go_wp2_with fail
    refine (h_heldInt64S _ _ _ _ 1 _ (h1012.drewN m13) (by omega) (by omega)).mono ?_
    rintro e w14 ⟨rfl, rfl⟩
    go_wp2_with fail
    go_ret
    exact ⟨rfl, below_drewN hB12 m13⟩
end Go.Proofs.YtgenfffgenddmaaDoor

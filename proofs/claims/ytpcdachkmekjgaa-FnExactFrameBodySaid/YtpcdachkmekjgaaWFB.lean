/- The walk of the law on FrameBody. -/
import Derived.Test.YtpcdachkmekjgaaFBody
import Derived.Test.YtpcdachkmekjgaaFrmH
import Derived.Test.YtpcdachkmekjgaaEmpH2
import Derived.Deep.RegionHeld3
import Derived.RegionTactic
import Derived.BigRegion
namespace Go.Proofs.Ytpcdachkmekjgaa
open Go.RowKit
set_option linter.unusedSimpArgs false
set_option linter.unusedVariables false
/-- An argument's box lies as it lay. -/
def Keep1 (w : World) (F : Obj) (W : World) : Prop := W.heap[w.heap.size]? = some F ∧ Below w.heap.size w W ∧ w.heap.size < W.heap.size
theorem Keep1.step {w : World} {F : Obj} {W W' : World} (h : Keep1 w F W) (hb : Below W.heap.size W W') : Keep1 w F W' :=
  ⟨(hb.block _ h.2.2).trans h.1, h.2.1.trans (hb.mono (Nat.le_of_lt h.2.2)), Nat.lt_of_lt_of_le h.2.2 hb.size⟩
theorem Keep1.alloc {w : World} {F : Obj} {W : World} (h : Keep1 w F W) (o : Obj) : Keep1 w F (W.alloc o) := h.step ((Below.refl _ _).alloc (Nat.le_refl _) o)
theorem Keep1.drewN {w : World} {F : Obj} {W : World} (h : Keep1 w F W) (m : Nat) : Keep1 w F (W.drewN m) := ⟨h.1, below_drewN h.2.1 m, h.2.2⟩
theorem Keep1.grown {w : World} {F : Obj} {W W' : World} {row : Option Nat} (h : Keep1 w F W) (hg : W.grownBy W' row) (hr : ∀ g, row = some g → w.heap.size < g) : Keep1 w F W' :=
  ⟨(hg.block _ h.2.2 (fun e => by have := hr _ e.symm; omega)).trans h.1, h.2.1.trans (grown_below hg (Nat.le_of_lt h.2.2) (fun g e => Nat.le_of_lt (hr g e))), Nat.lt_of_lt_of_le h.2.2 hg.size⟩
set_option maxHeartbeats 4000000 in
theorem w_FrameBody_ (k q t m r s v : Int) (A : Option Addr) (n c : Nat) (xs : List Int) (C : Int) (L : List Int) (hL : L.length ≤ 1000)
    (hs : ∀ (A : Option Addr) (n c B : Nat) (W : World), IntsAt W B A n c xs → B ≤ W.heap.size → Calls Try.prog 15 #[.agg #[.int .i64 k, .int .i64 q, .int .i64 t, .int .i64 m, .int .i64 r, .int .i64 s, .int .i64 v, .slice A n c]] W fun e W' => ∃ u, e = .returned (.tuple #[u, .int .i64 C]) ∧ IOwn W' W.heap.size u L ∧ Below W.heap.size W W')
    (hi : ∀ (A : Option Addr) (n c B : Nat) (W : World), IntsAt W B A n c xs → B ≤ W.heap.size → Calls Try.prog 17 #[.agg #[.int .i64 k, .int .i64 q, .int .i64 t, .int .i64 m, .int .i64 r, .int .i64 s, .int .i64 v, .slice A n c]] W fun e W' => ∃ u, e = .returned (.tuple #[u, .int .i64 C]) ∧ IOwn W' W.heap.size u L ∧ Below W.heap.size W W')
    (w : World) (w0 : ArgInts w A n c xs) :
    Calls Try.prog 3 #[.agg #[.int .i64 k, .int .i64 q, .int .i64 t, .int .i64 m, .int .i64 r, .int .i64 s, .int .i64 v, .slice A n c]] w fun e w' => e = .returned (.bool true) ∧ Below w.heap.size w w' := by
  have hm : n ≤ maxLen := Nat.le_trans w0.1 w0.2.1
  by_cases hbig : 1048576 < n
  · have hs : decide ((1048576 : Int) - n < 0) = true := by simp; omega
    clear w0 hi
    go_enter Try.func3, Try.ntmps3
    go_wp2_with fail
    refine (h_szFrame_no k q t m r s v A n c _ hbig hm).mono ?_
    rintro e w1 ⟨rfl, hb⟩
    go_wp2
    go_ret
    exact ⟨rfl, ((Below.refl _ _).alloc (Nat.le_refl _) _).trans (hb.mono (by simp))⟩
  · have hI := w0.2.2.2.2 (by omega)
    clear w0 hm
    have hzl : xs.length ≤ 16777216 := by rw [hI.len]; exact hI.small
    have hLL : L.length ≤ 16777216 := by omega
    have he := eqL_refl L
    have HS := Lib.hid hs; have HI := Lib.hid hi; clear hs hi
    have K0 : Keep1 w (.cells #[.int .i64 k, .int .i64 q, .int .i64 t, .int .i64 m, .int .i64 r, .int .i64 s, .int .i64 v, .slice A n c] 26 (0, 0)) (w.alloc (.cells #[.int .i64 k, .int .i64 q, .int .i64 t, .int .i64 m, .int .i64 r, .int .i64 s, .int .i64 v, .slice A n c] 26)) := ⟨heap_alloc_new w _, (Below.refl _ _).alloc (Nat.le_refl _) _, by simp⟩
    go_enter Try.func3, Try.ntmps3
    go_wp2_with fail
    refine (h_szFrame_yes k q t m r s v A n c _ (by omega)).mono ?_
    rintro e w1 ⟨rfl, hb⟩
    have K1 := K0.step hb
    clear K0 hb
    have I1 := hI.below K1.2.1
    have y1 := K1.2.2
    obtain ⟨c0, c1, c2, c3, c4, c5, c6, c7⟩ := fr_cells K1.1
    go_wp2_with fail
    refine (h_toFrame k q t m r s v A n c xs _ _ I1 (by omega)).mono ?_
    rintro e w2 ⟨vs, rfl, ho, hb⟩
    obtain ⟨As, cs, rfl, I⟩ := ho.ints hzl
    have K2 := K1.step hb
    clear c0 c1 c2 c3 c4 c5 c6 c7 K1 I1 ho hb
    go_wp2_with fail
    refine (HS.out _ _ _ _ _ I (Nat.le_refl _)).mono ?_
    rintro e w3 ⟨u0, rfl, o0, hb⟩
    obtain ⟨A0, d0, rfl, h0⟩ := o0.ints hLL
    have K3 := K2.step hb
    have I3 := hI.below K3.2.1
    have y3 := K3.2.2
    obtain ⟨c0, c1, c2, c3, c4, c5, c6, c7⟩ := fr_cells K3.1
    clear I K2 hb o0
    go_wp2_with fail
    refine (h_toFrame k q t m r s v A n c xs _ _ I3 (by omega)).mono ?_
    rintro e w4 ⟨vs, rfl, ox, hb⟩
    obtain ⟨Ax, cx, rfl, I⟩ := ox.ints hzl
    have h04 := h0.below hb
    have z4 := hb.size
    have K4 := (K3.step hb).alloc (.cells #[.int .i64 k, .int .i64 q, .int .i64 t, .int .i64 m, .int .i64 r, .int .i64 s, .int .i64 v, .slice Ax xs.length cx] 32)
    have P4 := heap_alloc_new w4 (.cells #[.int .i64 k, .int .i64 q, .int .i64 t, .int .i64 m, .int .i64 r, .int .i64 s, .int .i64 v, .slice Ax xs.length cx] 32)
    have X4 := I.alloc (Nat.le_refl _) (.cells #[.int .i64 k, .int .i64 q, .int .i64 t, .int .i64 m, .int .i64 r, .int .i64 s, .int .i64 v, .slice Ax xs.length cx] 32)
    have ox4 := ox.alloc (.cells #[.int .i64 k, .int .i64 q, .int .i64 t, .int .i64 m, .int .i64 r, .int .i64 s, .int .i64 v, .slice Ax xs.length cx] 32)
    have h04 := h04.alloc (by omega) (.cells #[.int .i64 k, .int .i64 q, .int .i64 t, .int .i64 m, .int .i64 r, .int .i64 s, .int .i64 v, .slice Ax xs.length cx] 32)
    have y4 : w4.heap.size < (w4.alloc (.cells #[.int .i64 k, .int .i64 q, .int .i64 t, .int .i64 m, .int .i64 r, .int .i64 s, .int .i64 v, .slice Ax xs.length cx] 32)).heap.size := by simp
    have ox_lt := ox.lt
    clear c0 c1 c2 c3 c4 c5 c6 c7 K3 I3 ox hb I h0
    go_wp2_with fail
    generalize w4.alloc _ = W at K4 P4 X4 ox4 h04 y4 ⊢
    generalize w4.heap.size = g at P4 X4 y4 z4 ox_lt ⊢
    refine (HI.out _ _ _ _ _ X4 (by omega)).mono ?_
    rintro e w5 ⟨u1, rfl, o1, hb⟩
    obtain ⟨A1, d1, rfl, h1⟩ := o1.ints hLL
    have z5 := hb.size
    have K5 := K4.step hb
    have P5 := (hb.block g (by omega)).trans P4
    have X5 := X4.below' (by omega) hb
    have ox5 := ox4.below_ hb
    have h05 := h04.below' (by omega) hb
    have I5 := hI.below K5.2.1
    clear K4 P4 X4 ox4 h04 hb
    go_wp2_with fail
    refine (h_eqInt64S _ _ _ _ _ _ _ _ _ _ _ h1 h05).mono ?_
    rintro e w6 ⟨rfl, m6, rfl⟩
    have K6 := K5.drewN m6
    have P6 : (w5.drewN m6).heap[g]? = _ := P5
    have X6 := X5.drewN m6
    have ox6 := ox5.drewN m6
    have o16 := o1.drewN m6
    have h06 := h05.drewN m6
    have h16 := h1.drewN m6
    have I6 := I5.drewN m6
    have zz : (w5.drewN m6).heap.size = w5.heap.size := rfl
    clear K5 P5 X5 ox5 o1 h05 h1 I5
    rw [← zz] at z5
    clear zz
    have zv : w5.heap.size ≤ (w5.drewN m6).heap.size := Nat.le_refl _
    generalize w5.drewN m6 = V at *
    obtain ⟨c0, c1, c2, c3, c4, c5, c6, c7⟩ := fr_cells K6.1
    obtain ⟨d0', d1', d2', d3', d4', d5', d6', d7'⟩ := fr_cells P6
    have y6 := K6.2.2
    have l1 := o16.lt
    have hT : Calls Try.prog 16 #[.agg #[.int .i64 k, .int .i64 q, .int .i64 t, .int .i64 m, .int .i64 r, .int .i64 s, .int .i64 v, .slice A n c]] V.drew fun e w7 => ∃ At ct, e = .returned (.agg #[.int .i64 k, .int .i64 q, .int .i64 t, .int .i64 m, .int .i64 r, .int .i64 s, .int .i64 v, .slice At xs.length ct]) ∧ IntsAt w7 w7.heap.size At xs.length ct xs ∧ IntsAt w7 g Ax xs.length cx xs ∧ Keep1 w (.cells #[.int .i64 k, .int .i64 q, .int .i64 t, .int .i64 m, .int .i64 r, .int .i64 s, .int .i64 v, .slice A n c] 26 (0, 0)) w7 ∧ w7.heap[g]? = some (.cells #[.int .i64 k, .int .i64 q, .int .i64 t, .int .i64 m, .int .i64 r, .int .i64 s, .int .i64 v, .slice Ax xs.length cx] 32 (0, 0)) ∧ V.heap.size ≤ w7.heap.size ∧ Below V.heap.size V w7 := by
      refine (h_toFrame k q t m r s v A n c xs _ V.drew I6.drew (show w.heap.size ≤ V.heap.size by omega)).mono ?_
      rintro e w7 ⟨vs, rfl, o7, b7⟩
      obtain ⟨At, ct, rfl, I7⟩ := o7.ints hzl
      have B7 : Below V.heap.size V w7 := ⟨b7.os, b7.tape, b7.output, b7.size, b7.block⟩
      exact ⟨At, ct, rfl, I7, X6.below' (show g ≤ V.heap.size by omega) B7, K6.step B7, (B7.block g (by omega)).trans P6, B7.size, B7⟩
    have HT := Lib.hid hT
    clear hT
    go_wp2_with fail
    go_region_held3 (fun w' => w'.cell? ⟨w.heap.size, 0, none⟩ = some (.int .i64 k) ∧ w'.cell? ⟨w.heap.size, 1, none⟩ = some (.int .i64 q) ∧ w'.cell? ⟨w.heap.size, 2, none⟩ = some (.int .i64 t) ∧ w'.cell? ⟨w.heap.size, 3, none⟩ = some (.int .i64 m) ∧ w'.cell? ⟨w.heap.size, 4, none⟩ = some (.int .i64 r) ∧ w'.cell? ⟨w.heap.size, 5, none⟩ = some (.int .i64 s) ∧ w'.cell? ⟨w.heap.size, 6, none⟩ = some (.int .i64 v) ∧ w'.cell? ⟨w.heap.size, 7, none⟩ = some (.slice A n c) ∧ w'.cell? ⟨g, 0, none⟩ = some (.int .i64 k) ∧ w'.cell? ⟨g, 1, none⟩ = some (.int .i64 q) ∧ w'.cell? ⟨g, 2, none⟩ = some (.int .i64 t) ∧ w'.cell? ⟨g, 3, none⟩ = some (.int .i64 m) ∧ w'.cell? ⟨g, 4, none⟩ = some (.int .i64 r) ∧ w'.cell? ⟨g, 5, none⟩ = some (.int .i64 s) ∧ w'.cell? ⟨g, 6, none⟩ = some (.int .i64 v) ∧ w'.cell? ⟨g, 7, none⟩ = some (.slice Ax xs.length cx)) (go_keep) (first
      | (go_at_call 16; refine HT.out.mono ?_; rintro e w7 ⟨At, ct, rfl, I7, X7, K7, P7, z7, B7⟩; obtain ⟨c0, c1, c2, c3, c4, c5, c6, c7⟩ := fr_cells K7.1; obtain ⟨d0', d1', d2', d3', d4', d5', d6', d7'⟩ := fr_cells P7)
      | (go_at_call 19; refine (h_eqFrame k q t m r s v _ _ _ _ _ _ xs _ _ _ X7 I7 (by omega) (by omega)).mono ?_; rintro e w8 ⟨rfl, b8⟩; have K8 := K7.step b8; have P8 := (b8.block g (by omega)).trans P7; have B8 := B7.trans (b8.mono z7); have z8 := b8.size; obtain ⟨c0, c1, c2, c3, c4, c5, c6, c7⟩ := fr_cells K8.1; obtain ⟨d0', d1', d2', d3', d4', d5', d6', d7'⟩ := fr_cells P8))
    have ox8 := ox6.below_ B8
    have o18 := o16.below_ B8
    have h08 := h06.below' (by omega) B8
    have h18 := h16.below' zv B8
    have I8 := hI.below K8.2.1
    clear HT K6 P6 X6 ox6 o16 h06 h16 I6 I7 X7 K7 P7 B7 b8 c0 c1 c2 c3 c4 c5 c6 c7
    go_wp2_with fail
    refine (h_markFrame k q t m r s v _ _ _ xs _ 1 _ ox8 (by omega) (by omega) hzl).mono ?_
    rintro e w9 ⟨rfl, -, hg9⟩
    have oxl : ∀ b, (Value.slice Ax xs.length cx).ownBlock = some b → w3.heap.size ≤ b ∧ b < g := ox_lt
    have K9 := K8.grown hg9 (fun b hb => by have := oxl b hb; omega)
    have h09 := h08.grown hg9 (by omega) (fun b hb => (oxl b hb).1)
    have o19 := o18.kept hg9 (by
      rcases hq : (Value.slice A1 L.length d1).ownBlock with _ | b1
      · exact .inl rfl
      · refine .inr fun e => ?_
        have := oxl b1 e.symm
        have := l1 b1 hq
        omega)
    obtain ⟨A9, d9, e9, h19⟩ := o19.ints hLL
    injection e9 with e91 e92 e93
    subst e91 e93
    have z9 : w8.heap.size ≤ w9.heap.size := hg9.size
    have hp : decide ((1 : Int) + xs.length < 0) = false := by simp; omega
    clear K8 P8 ox8 o18 h08 h18 I8 hg9 e92 d0' d1' d2' d3' d4' d5' d6' d7'
    go_wp2_with fail
    refine (h_eqInt64S _ _ _ _ _ _ _ _ _ _ _ h19 h09).mono ?_
    rintro e wa ⟨rfl, ma, rfl⟩
    go_wp2_with fail
    refine (h_markInt64S _ _ _ 1 _ (o19.drewN ma) (by omega) (by omega) hLL).mono ?_
    rintro e wb ⟨rfl, ob, hgb⟩
    have hgb' : w9.grownBy wb (Value.slice A1 L.length d1).ownBlock := ⟨hgb.os, hgb.tape, hgb.output, hgb.size, hgb.block⟩
    have hl1 := o19.lt
    have h0b := h09.grown hgb' (by omega) (fun b hb => by have := hl1 b hb; omega)
    have zb : w9.heap.size ≤ wb.heap.size := hgb'.size
    have Kb := K9.grown hgb' (fun b hb => by have := hl1 b hb; omega)
    obtain ⟨Ab, db, eb, hb1⟩ := ob.ints (by rw [marksL_len]; exact hLL)
    rw [marksL_len] at eb hb1
    injection eb with eb1 eb2 eb3
    subst eb1 eb3
    have Ib := hI.below Kb.2.1
    clear eb2 hgb hgb' K9 h09 o19 ob h19
    obtain ⟨c0, c1, c2, c3, c4, c5, c6, c7⟩ := fr_cells Kb.1
    go_wp2_with fail
    refine (h_heldInt64S _ _ _ _ 1 _ hb1 (by omega) (by omega)).mono ?_
    rintro e wb' ⟨rfl, rfl⟩
    go_wp2_with fail
    refine (h_toFrame k q t m r s v A n c xs _ _ Ib (by omega)).mono ?_
    rintro e wc ⟨vs, rfl, oc, hbc⟩
    obtain ⟨Ac, cc, rfl, Ic⟩ := oc.ints hzl
    have zc := hbc.size
    have h0c := h0b.below' (by omega) hbc
    have hbc1 := hb1.below hbc
    have Kc := Kb.step hbc
    clear c0 c1 c2 c3 c4 c5 c6 c7 Kb h0b hbc oc hb1 Ib
    go_wp2_with fail
    refine (HI.out _ _ _ _ _ Ic (Nat.le_refl _)).mono ?_
    rintro e wd ⟨u8, rfl, o8, hbd⟩
    obtain ⟨A8, d8, rfl, h8⟩ := o8.ints hLL
    have h0d := h0c.below' (by omega) hbd
    have hbd1 := hbc1.below' (by omega) hbd
    have Kd := Kc.step hbd
    clear Kc hbd h0c hbc1 Ic
    go_wp2_with fail
    refine (h_eqInt64S _ _ _ _ _ _ _ _ _ _ _ h8 h0d).mono ?_
    rintro e we ⟨rfl, me, rfl⟩
    go_wp2_with fail
    refine (h_heldInt64S _ _ _ _ 1 _ (hbd1.drewN me) (by omega) (by omega)).mono ?_
    rintro e we' ⟨rfl, rfl⟩
    go_wp2_with fail
    go_ret
    exact ⟨rfl, below_drewN Kd.2.1 me⟩
theorem w_FrameBody (k q t m r s v : Int) (A : Option Addr) (n c : Nat) (xs : List Int) (w : World) (w0 : ArgInts w A n c xs) :
    Calls Try.prog 3 #[.agg #[.int .i64 k, .int .i64 q, .int .i64 t, .int .i64 m, .int .i64 r, .int .i64 s, .int .i64 v, .slice A n c]] w fun e w' => e = .returned (.bool true) ∧ Below w.heap.size w w' := by
  refine w_FrameBody_ k q t m r s v A n c xs (fbC (frOk k q t m r s v xs)) (if frOk k q t m r s v xs then bodyL k q t m r s v xs else []) ?_ (fun A n c B W h hB => s_FrameBody k q t m r s v A n c xs B W h hB) (fun A n c B W h hB => i_FrameBody k q t m r s v A n c xs B W h hB) w w0
  split
  · rename_i hf
    have hz := sizeOk_bd (fr_st hf).2.2.1
    rw [bodyL_len]
    split <;> split <;> omega
  · simp
end Go.Proofs.Ytpcdachkmekjgaa

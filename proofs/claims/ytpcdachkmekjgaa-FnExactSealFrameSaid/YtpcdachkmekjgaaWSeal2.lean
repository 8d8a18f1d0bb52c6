/- The walks of the laws on SealFrame. -/
import Derived.Test.YtpcdachkmekjgaaWSeal
import Derived.Test.YtpcdachkmekjgaaFrmH
import Derived.Test.YtpcdachkmekjgaaEmpH2
import Derived.Deep.RegionHeld3
import Derived.RegionTactic
import Derived.BigRegion
namespace Go.Proofs.Ytpcdachkmekjgaa
open Go.RowKit
set_option linter.unusedSimpArgs false
set_option linter.unusedVariables false
set_option maxHeartbeats 4000000 in
theorem w_SealFrame_ (k q t m r s v : Int) (A : Option Addr) (n c : Nat) (xs : List Int) (id : Int) (T M R S V : Int) (C : Int) (L : List Int) (hL : L.length ≤ 1000)
    (hs : ∀ (A : Option Addr) (n c B : Nat) (W : World), IntsAt W B A n c xs → B ≤ W.heap.size → Calls Try.prog 30 #[.agg #[.int .i64 k, .int .i64 q, .int .i64 t, .int .i64 m, .int .i64 r, .int .i64 s, .int .i64 v, .slice A n c], .int .i64 id, .agg #[.int .i64 T, .int .i64 M, .int .i64 R, .int .i64 S, .int .i64 V]] W fun e W' => ∃ u, e = .returned (.tuple #[u, .int .i64 C]) ∧ IOwn W' W.heap.size u L ∧ Below W.heap.size W W')
    (hi : ∀ (A : Option Addr) (n c B : Nat) (W : World), IntsAt W B A n c xs → B ≤ W.heap.size → Calls Try.prog 31 #[.agg #[.int .i64 k, .int .i64 q, .int .i64 t, .int .i64 m, .int .i64 r, .int .i64 s, .int .i64 v, .slice A n c], .int .i64 id, .agg #[.int .i64 T, .int .i64 M, .int .i64 R, .int .i64 S, .int .i64 V]] W fun e W' => ∃ u, e = .returned (.tuple #[u, .int .i64 C]) ∧ IOwn W' W.heap.size u L ∧ Below W.heap.size W W')
    (w : World) (w0 : ArgInts w A n c xs) :
    Calls Try.prog 6 #[.agg #[.int .i64 k, .int .i64 q, .int .i64 t, .int .i64 m, .int .i64 r, .int .i64 s, .int .i64 v, .slice A n c], .int .i64 id, .agg #[.int .i64 T, .int .i64 M, .int .i64 R, .int .i64 S, .int .i64 V]] w fun e w' => e = .returned (.bool true) ∧ Below w.heap.size w w' := by
  have hm : n ≤ maxLen := Nat.le_trans w0.1 w0.2.1
  by_cases hbig : 1048576 < n
  · have hs : decide ((1048576 : Int) - n < 0) = true := by simp; omega
    clear w0 hi
    go_enter Try.func6, Try.ntmps6
    go_wp2_with fail
    refine (h_szFrame_no k q t m r s v A n c _ hbig hm).mono ?_
    rintro e w1 ⟨rfl, hb⟩
    go_wp2
    go_ret
    exact ⟨rfl, (((Below.refl _ _).alloc (Nat.le_refl _) _).alloc (by simp) _).trans (hb.mono (by simp; omega))⟩
  · have hI := w0.2.2.2.2 (by omega)
    clear w0 hm
    have hzl : xs.length ≤ 16777216 := by rw [hI.len]; exact hI.small
    have HS := Lib.hid hs; have HI := Lib.hid hi; clear hs hi
    have hLL : L.length ≤ 16777216 := by omega
    have he := eqL_refl L
    have K0 := Keep2.new w #[.int .i64 k, .int .i64 q, .int .i64 t, .int .i64 m, .int .i64 r, .int .i64 s, .int .i64 v, .slice A n c] #[.int .i64 T, .int .i64 M, .int .i64 R, .int .i64 S, .int .i64 V] 26 23
    have HTF := Lib.hid (fun (W : World) (K : Keep2 w (.cells #[.int .i64 k, .int .i64 q, .int .i64 t, .int .i64 m, .int .i64 r, .int .i64 s, .int .i64 v, .slice A n c] 26 (0, 0)) (.cells #[.int .i64 T, .int .i64 M, .int .i64 R, .int .i64 S, .int .i64 V] 23 (0, 0)) W) => h_toFrame k q t m r s v A n c xs w.heap.size W (hI.below K.2.2.1) (by have := K.2.2.2; omega))
    have HTS := Lib.hid (fun (W : World) => h_toState T M R S V W)
    go_enter Try.func6, Try.ntmps6
    go_wp2_with fail
    refine (h_szFrame_yes k q t m r s v A n c _ (by omega)).mono ?_
    rintro e w1 ⟨rfl, hb⟩
    have K1 := (K0.step hb).drew
    clear K0 hb
    obtain ⟨c0, c1, c2, c3, c4, c5, c6, c7⟩ := fr_cells K1.1
    obtain ⟨s0, s1, s2, s3, s4⟩ := cells5 K1.2.1
    go_wp2_with fail
    go_region_held3 (fun w' => w'.cell? ⟨w.heap.size, 0, none⟩ = some (.int .i64 k) ∧ w'.cell? ⟨w.heap.size, 1, none⟩ = some (.int .i64 q) ∧ w'.cell? ⟨w.heap.size, 2, none⟩ = some (.int .i64 t) ∧ w'.cell? ⟨w.heap.size, 3, none⟩ = some (.int .i64 m) ∧ w'.cell? ⟨w.heap.size, 4, none⟩ = some (.int .i64 r) ∧ w'.cell? ⟨w.heap.size, 5, none⟩ = some (.int .i64 s) ∧ w'.cell? ⟨w.heap.size, 6, none⟩ = some (.int .i64 v) ∧ w'.cell? ⟨w.heap.size, 7, none⟩ = some (.slice A n c) ∧ w'.cell? ⟨w.heap.size + 1, 0, none⟩ = some (.int .i64 T) ∧ w'.cell? ⟨w.heap.size + 1, 1, none⟩ = some (.int .i64 M) ∧ w'.cell? ⟨w.heap.size + 1, 2, none⟩ = some (.int .i64 R) ∧ w'.cell? ⟨w.heap.size + 1, 3, none⟩ = some (.int .i64 S) ∧ w'.cell? ⟨w.heap.size + 1, 4, none⟩ = some (.int .i64 V)) (go_keep) (first
      | (go_at_call 30; refine (HS.out _ _ _ _ _ I9 (Nat.le_refl _)).mono ?_; rintro e w5 ⟨u0, rfl, o0, b5⟩; obtain ⟨A0, d0, rfl, h0⟩ := o0.ints hLL; have K5 := K9.step b5; obtain ⟨c0, c1, c2, c3, c4, c5, c6, c7⟩ := fr_cells K5.1; obtain ⟨s0, s1, s2, s3, s4⟩ := cells5 K5.2.1)
      | (go_at_call 16; refine (HTF.out _ K3).mono ?_; rintro e w2 ⟨vs, rfl, o2, b2⟩; obtain ⟨As, cs, rfl, I9⟩ := o2.ints hzl; have K9 := K3.step b2; obtain ⟨c0, c1, c2, c3, c4, c5, c6, c7⟩ := fr_cells K9.1; obtain ⟨s0, s1, s2, s3, s4⟩ := cells5 K9.2.1)
      | (go_at_call 16; refine (HTF.out _ K1).mono ?_; rintro e w2 ⟨vs, rfl, o2, b2⟩; obtain ⟨As, cs, rfl, I2⟩ := o2.ints hzl; have K2 := K1.step b2; obtain ⟨c0, c1, c2, c3, c4, c5, c6, c7⟩ := fr_cells K2.1; obtain ⟨s0, s1, s2, s3, s4⟩ := cells5 K2.2.1)
      | (go_at_call 28; refine (HTS.out _).mono ?_; rintro e w3 ⟨rfl, b3⟩; have I9 := (I2.below b3).more b3.size; have K9 := K2.step b3; obtain ⟨c0, c1, c2, c3, c4, c5, c6, c7⟩ := fr_cells K9.1; obtain ⟨s0, s1, s2, s3, s4⟩ := cells5 K9.2.1)
      | (go_at_call 28; refine (HTS.out _).mono ?_; rintro e w3 ⟨rfl, b3⟩; have K3 := K1.step b3; obtain ⟨c0, c1, c2, c3, c4, c5, c6, c7⟩ := fr_cells K3.1; obtain ⟨s0, s1, s2, s3, s4⟩ := cells5 K3.2.1))
    clear I9 K9
    go_wp2_with fail
    refine (HTF.out _ K5).mono ?_
    rintro e w6 ⟨vs, rfl, ox, b6⟩
    obtain ⟨Ax, cx, rfl, I⟩ := ox.ints hzl
    have z6 := b6.size
    have K6 := ((K5.step b6).alloc (.cells #[.int .i64 k, .int .i64 q, .int .i64 t, .int .i64 m, .int .i64 r, .int .i64 s, .int .i64 v, .slice Ax xs.length cx] 32)).drew
    have P6 : (w6.alloc (.cells #[.int .i64 k, .int .i64 q, .int .i64 t, .int .i64 m, .int .i64 r, .int .i64 s, .int .i64 v, .slice Ax xs.length cx] 32)).drew.heap[w6.heap.size]? = some (.cells #[.int .i64 k, .int .i64 q, .int .i64 t, .int .i64 m, .int .i64 r, .int .i64 s, .int .i64 v, .slice Ax xs.length cx] 32 (0, 0)) := heap_alloc_new w6 (.cells #[.int .i64 k, .int .i64 q, .int .i64 t, .int .i64 m, .int .i64 r, .int .i64 s, .int .i64 v, .slice Ax xs.length cx] 32)
    have X6 := (I.alloc (Nat.le_refl _) (.cells #[.int .i64 k, .int .i64 q, .int .i64 t, .int .i64 m, .int .i64 r, .int .i64 s, .int .i64 v, .slice Ax xs.length cx] 32)).drew
    have ox6 := (ox.alloc (.cells #[.int .i64 k, .int .i64 q, .int .i64 t, .int .i64 m, .int .i64 r, .int .i64 s, .int .i64 v, .slice Ax xs.length cx] 32)).drew
    have ox_lt := ox.lt
    have y6 : w6.heap.size < (w6.alloc (.cells #[.int .i64 k, .int .i64 q, .int .i64 t, .int .i64 m, .int .i64 r, .int .i64 s, .int .i64 v, .slice Ax xs.length cx] 32)).drew.heap.size := by show w6.heap.size < (w6.alloc _).heap.size; simp
    have h06 := ((h0.below b6).alloc z6 (.cells #[.int .i64 k, .int .i64 q, .int .i64 t, .int .i64 m, .int .i64 r, .int .i64 s, .int .i64 v, .slice Ax xs.length cx] 32)).drew
    clear c0 c1 c2 c3 c4 c5 c6 c7 s0 s1 s2 s3 s4 I ox
    go_wp2_with fail
    generalize w6.alloc _ = W at *
    have zW : W.drew.heap.size = W.heap.size := rfl
    generalize hg : w6.heap.size = g at *
    have K6' := K6
    obtain ⟨-, -, -, y7⟩ := K6'
    have c7' := fr_cells P6
    obtain ⟨c0, c1, c2, c3, c4, c5, c6, c7⟩ := c7'
    obtain ⟨s0, s1, s2, s3, s4⟩ := cells5 K6.2.1
    go_region_held3 (fun w' => w'.cell? ⟨g, 0, none⟩ = some (.int .i64 k) ∧ w'.cell? ⟨g, 1, none⟩ = some (.int .i64 q) ∧ w'.cell? ⟨g, 2, none⟩ = some (.int .i64 t) ∧ w'.cell? ⟨g, 3, none⟩ = some (.int .i64 m) ∧ w'.cell? ⟨g, 4, none⟩ = some (.int .i64 r) ∧ w'.cell? ⟨g, 5, none⟩ = some (.int .i64 s) ∧ w'.cell? ⟨g, 6, none⟩ = some (.int .i64 v) ∧ w'.cell? ⟨g, 7, none⟩ = some (.slice Ax xs.length cx) ∧ w'.cell? ⟨w.heap.size + 1, 0, none⟩ = some (.int .i64 T) ∧ w'.cell? ⟨w.heap.size + 1, 1, none⟩ = some (.int .i64 M) ∧ w'.cell? ⟨w.heap.size + 1, 2, none⟩ = some (.int .i64 R) ∧ w'.cell? ⟨w.heap.size + 1, 3, none⟩ = some (.int .i64 S) ∧ w'.cell? ⟨w.heap.size + 1, 4, none⟩ = some (.int .i64 V)) (go_keep) (first
      | (go_at_call 31; refine (HI.out _ _ _ _ _ X8 (by omega)).mono ?_; rintro e w9 ⟨u1, rfl, o1, b9⟩; obtain ⟨A1, d1, rfl, h1⟩ := o1.ints hLL; have z9 := b9.size; have K9 := K8.step b9; have P9 := (b9.block g (by omega)).trans P8; have X9 := X8.below' (by omega) b9; have ox9 := ox8.below_ b9; have h09 := h08.below' (by omega) b9; obtain ⟨c0, c1, c2, c3, c4, c5, c6, c7⟩ := fr_cells P9; obtain ⟨s0, s1, s2, s3, s4⟩ := cells5 K9.2.1)
      | (go_at_call 28; refine (HTS.out _).mono ?_; rintro e w8 ⟨rfl, b8⟩; have z8 := b8.size; have K8 := K6.step b8; have P8 := (b8.block g (by omega)).trans P6; have X8 := X6.below' (by omega) b8; have ox8 := ox6.below_ b8; have h08 := h06.below' (by omega) b8; obtain ⟨c0, c1, c2, c3, c4, c5, c6, c7⟩ := fr_cells P8; obtain ⟨s0, s1, s2, s3, s4⟩ := cells5 K8.2.1))
    clear c0 c1 c2 c3 c4 c5 c6 c7 s0 s1 s2 s3 s4
    go_wp2_with fail
    refine (h_eqInt64S _ _ _ _ _ _ _ _ _ _ _ h1 h09).mono ?_
    rintro e wa ⟨rfl, ma, rfl⟩
    have l1 := o1.lt
    have Ka := K9.drewN ma
    have Pa : (w9.drewN ma).heap[g]? = some (.cells #[.int .i64 k, .int .i64 q, .int .i64 t, .int .i64 m, .int .i64 r, .int .i64 s, .int .i64 v, .slice Ax xs.length cx] 32 (0, 0)) := P9
    have Xa := X9.drewN ma
    have oxa := ox9.drewN ma
    have o1a := o1.drewN ma
    have h0a := h09.drewN ma
    have h1a := h1.drewN ma
    have zv : w9.heap.size ≤ (w9.drewN ma).heap.size := Nat.le_refl _
    have Ia := hI.below Ka.2.2.1
    clear K9 P9 X9 ox9 o1 h09 h1
    generalize w9.drewN ma = Y at *
    obtain ⟨c0, c1, c2, c3, c4, c5, c6, c7⟩ := fr_cells Ka.1
    obtain ⟨d0', d1', d2', d3', d4', d5', d6', d7'⟩ := fr_cells Pa
    have ya := Ka.2.2.2
    have hT : Calls Try.prog 16 #[.agg #[.int .i64 k, .int .i64 q, .int .i64 t, .int .i64 m, .int .i64 r, .int .i64 s, .int .i64 v, .slice A n c]] Y.drew fun e w7 => ∃ At ct, e = .returned (.agg #[.int .i64 k, .int .i64 q, .int .i64 t, .int .i64 m, .int .i64 r, .int .i64 s, .int .i64 v, .slice At xs.length ct]) ∧ IntsAt w7 w7.heap.size At xs.length ct xs ∧ IntsAt w7 g Ax xs.length cx xs ∧ Keep2 w (.cells #[.int .i64 k, .int .i64 q, .int .i64 t, .int .i64 m, .int .i64 r, .int .i64 s, .int .i64 v, .slice A n c] 26 (0, 0)) (.cells #[.int .i64 T, .int .i64 M, .int .i64 R, .int .i64 S, .int .i64 V] 23 (0, 0)) w7 ∧ w7.heap[g]? = some (.cells #[.int .i64 k, .int .i64 q, .int .i64 t, .int .i64 m, .int .i64 r, .int .i64 s, .int .i64 v, .slice Ax xs.length cx] 32 (0, 0)) ∧ Y.heap.size ≤ w7.heap.size ∧ Below Y.heap.size Y w7 := by
      refine (h_toFrame k q t m r s v A n c xs _ Y.drew Ia.drew (show w.heap.size ≤ Y.heap.size by omega)).mono ?_
      rintro e w7 ⟨vs, rfl, o7, b7⟩
      obtain ⟨At, ct, rfl, I7⟩ := o7.ints hzl
      have B7 : Below Y.heap.size Y w7 := ⟨b7.os, b7.tape, b7.output, b7.size, b7.block⟩
      exact ⟨At, ct, rfl, I7, Xa.below' (show g ≤ Y.heap.size by omega) B7, Ka.step B7, (B7.block g (by omega)).trans Pa, B7.size, B7⟩
    have HT := Lib.hid hT
    clear hT
    go_wp2_with fail
    go_region_held3 (fun w' => w'.cell? ⟨w.heap.size, 0, none⟩ = some (.int .i64 k) ∧ w'.cell? ⟨w.heap.size, 1, none⟩ = some (.int .i64 q) ∧ w'.cell? ⟨w.heap.size, 2, none⟩ = some (.int .i64 t) ∧ w'.cell? ⟨w.heap.size, 3, none⟩ = some (.int .i64 m) ∧ w'.cell? ⟨w.heap.size, 4, none⟩ = some (.int .i64 r) ∧ w'.cell? ⟨w.heap.size, 5, none⟩ = some (.int .i64 s) ∧ w'.cell? ⟨w.heap.size, 6, none⟩ = some (.int .i64 v) ∧ w'.cell? ⟨w.heap.size, 7, none⟩ = some (.slice A n c) ∧ w'.cell? ⟨g, 0, none⟩ = some (.int .i64 k) ∧ w'.cell? ⟨g, 1, none⟩ = some (.int .i64 q) ∧ w'.cell? ⟨g, 2, none⟩ = some (.int .i64 t) ∧ w'.cell? ⟨g, 3, none⟩ = some (.int .i64 m) ∧ w'.cell? ⟨g, 4, none⟩ = some (.int .i64 r) ∧ w'.cell? ⟨g, 5, none⟩ = some (.int .i64 s) ∧ w'.cell? ⟨g, 6, none⟩ = some (.int .i64 v) ∧ w'.cell? ⟨g, 7, none⟩ = some (.slice Ax xs.length cx)) (go_keep) (first
      | (go_at_call 16; refine HT.out.mono ?_; rintro e wb ⟨At, ct, rfl, Ib, Xb, Kb, Pb, zb, Bb⟩; obtain ⟨c0, c1, c2, c3, c4, c5, c6, c7⟩ := fr_cells Kb.1; obtain ⟨d0', d1', d2', d3', d4', d5', d6', d7'⟩ := fr_cells Pb)
      | (go_at_call 19; refine (h_eqFrame k q t m r s v _ _ _ _ _ _ xs _ _ _ Xb Ib (by omega) (by omega)).mono ?_; rintro e wc ⟨rfl, bc⟩; have Kc := Kb.step bc; have Pc := (bc.block g (by omega)).trans Pb; have Bc := Bb.trans (bc.mono zb); have zc := bc.size; obtain ⟨c0, c1, c2, c3, c4, c5, c6, c7⟩ := fr_cells Kc.1; obtain ⟨d0', d1', d2', d3', d4', d5', d6', d7'⟩ := fr_cells Pc))
    have ox8 := oxa.below_ Bc
    have o18 := o1a.below_ Bc
    have y5 := K5.2.2.2
    have h08 := h0a.below' (by omega) Bc
    have h18 := h1a.below' zv Bc
    clear HT Ka Pa Xa oxa o1a h0a h1a Ia Ib Xb Kb Pb Bb bc c0 c1 c2 c3 c4 c5 c6 c7
    go_wp2_with fail
    refine (h_markFrame k q t m r s v _ _ _ xs _ 1 _ ox8 (by omega) (by omega) hzl).mono ?_
    rintro e wd ⟨rfl, -, hg9⟩
    have oxl : ∀ b, (Value.slice Ax xs.length cx).ownBlock = some b → w5.heap.size ≤ b ∧ b < g := ox_lt
    have Kd := Kc.grown hg9 (fun b hb => by have := oxl b hb; omega)
    have h0d := h08.grown hg9 (by omega) (fun b hb => (oxl b hb).1)
    have o1d := o18.kept hg9 (by
      rcases hq : (Value.slice A1 L.length d1).ownBlock with _ | b1
      · exact .inl rfl
      · refine .inr fun e => ?_
        have := oxl b1 e.symm
        have := l1 b1 hq
        omega)
    obtain ⟨Ad, dd, ed, h1d⟩ := o1d.ints hLL
    injection ed with ed1 ed2 ed3
    subst ed1 ed3
    have zd : wc.heap.size ≤ wd.heap.size := hg9.size
    have hp : decide ((1 : Int) + xs.length < 0) = false := by simp; omega
    clear Kc Pc ox8 o18 h08 h18 hg9 ed2 d0' d1' d2' d3' d4' d5' d6' d7'
    go_wp2_with fail
    refine (h_eqInt64S _ _ _ _ _ _ _ _ _ _ _ h1d h0d).mono ?_
    rintro e we ⟨rfl, me, rfl⟩
    go_wp2_with fail
    refine (h_markInt64S _ _ _ 1 _ (o1d.drewN me) (by omega) (by omega) hLL).mono ?_
    rintro e wf ⟨rfl, of, hgf⟩
    have hgf' : wd.grownBy wf (Value.slice A1 L.length d1).ownBlock := ⟨hgf.os, hgf.tape, hgf.output, hgf.size, hgf.block⟩
    have hl1 := o1d.lt
    have h0f := h0d.grown hgf' (by omega) (fun b hb => by have := hl1 b hb; omega)
    have zf : wd.heap.size ≤ wf.heap.size := hgf'.size
    have Kf := Kd.grown hgf' (fun b hb => by have := hl1 b hb; omega)
    obtain ⟨Af, df, ef, hm1⟩ := of.ints (by rw [marksL_len]; exact hLL)
    rw [marksL_len] at ef hm1
    injection ef with ef1 ef2 ef3
    subst ef1 ef3
    clear ef2 hgf hgf' Kd h0d o1d of h1d
    go_wp2_with fail
    refine (h_heldInt64S _ _ _ _ 1 _ hm1 (by omega) (by omega)).mono ?_
    rintro e wf' ⟨rfl, rfl⟩
    have K1 := Kf.drew
    have h01 := h0f.drew
    have hm1' := hm1.drew
    have zx : w5.heap.size ≤ wf.drew.heap.size := (show w5.heap.size ≤ wf.heap.size by omega)
    have zy : wf.heap.size ≤ wf.drew.heap.size := Nat.le_refl _
    obtain ⟨c0, c1, c2, c3, c4, c5, c6, c7⟩ := fr_cells K1.1
    obtain ⟨s0, s1, s2, s3, s4⟩ := cells5 K1.2.1
    clear Kf h0f hm1
    go_wp2_with fail
    go_region_held3 (fun w' => w'.cell? ⟨w.heap.size, 0, none⟩ = some (.int .i64 k) ∧ w'.cell? ⟨w.heap.size, 1, none⟩ = some (.int .i64 q) ∧ w'.cell? ⟨w.heap.size, 2, none⟩ = some (.int .i64 t) ∧ w'.cell? ⟨w.heap.size, 3, none⟩ = some (.int .i64 m) ∧ w'.cell? ⟨w.heap.size, 4, none⟩ = some (.int .i64 r) ∧ w'.cell? ⟨w.heap.size, 5, none⟩ = some (.int .i64 s) ∧ w'.cell? ⟨w.heap.size, 6, none⟩ = some (.int .i64 v) ∧ w'.cell? ⟨w.heap.size, 7, none⟩ = some (.slice A n c) ∧ w'.cell? ⟨w.heap.size + 1, 0, none⟩ = some (.int .i64 T) ∧ w'.cell? ⟨w.heap.size + 1, 1, none⟩ = some (.int .i64 M) ∧ w'.cell? ⟨w.heap.size + 1, 2, none⟩ = some (.int .i64 R) ∧ w'.cell? ⟨w.heap.size + 1, 3, none⟩ = some (.int .i64 S) ∧ w'.cell? ⟨w.heap.size + 1, 4, none⟩ = some (.int .i64 V)) (go_keep) (first
      | (go_at_call 31; refine (HI.out _ _ _ _ _ I9 (Nat.le_refl _)).mono ?_; rintro e wg ⟨u8, rfl, o8, bg⟩; obtain ⟨A8, d8, rfl, h8⟩ := o8.ints hLL; have h0g := h09.below' (by omega) bg; have hmg := hm9.below' (by omega) bg; have Kg := K9.step bg; obtain ⟨c0, c1, c2, c3, c4, c5, c6, c7⟩ := fr_cells Kg.1; obtain ⟨s0, s1, s2, s3, s4⟩ := cells5 Kg.2.1)
      | (go_at_call 16; refine (HTF.out _ K3).mono ?_; rintro e w2 ⟨vs, rfl, o2, b2⟩; obtain ⟨As, cs, rfl, I9⟩ := o2.ints hzl; have h09 := h03.below' (by omega) b2; have hm9 := hm3.below' (by omega) b2; have z9 := b2.size; have K9 := K3.step b2; obtain ⟨c0, c1, c2, c3, c4, c5, c6, c7⟩ := fr_cells K9.1; obtain ⟨s0, s1, s2, s3, s4⟩ := cells5 K9.2.1)
      | (go_at_call 16; refine (HTF.out _ K1).mono ?_; rintro e w2 ⟨vs, rfl, o2, b2⟩; obtain ⟨As, cs, rfl, I2⟩ := o2.ints hzl; have h02 := h01.below' (by omega) b2; have hm2 := hm1'.below' (by omega) b2; have z2 := b2.size; have K2 := K1.step b2; obtain ⟨c0, c1, c2, c3, c4, c5, c6, c7⟩ := fr_cells K2.1; obtain ⟨s0, s1, s2, s3, s4⟩ := cells5 K2.2.1)
      | (go_at_call 28; refine (HTS.out _).mono ?_; rintro e w3 ⟨rfl, b3⟩; have I9 := (I2.below b3).more b3.size; have h09 := h02.below' (by omega) b3; have hm9 := hm2.below' (by omega) b3; have z9 := b3.size; have K9 := K2.step b3; obtain ⟨c0, c1, c2, c3, c4, c5, c6, c7⟩ := fr_cells K9.1; obtain ⟨s0, s1, s2, s3, s4⟩ := cells5 K9.2.1)
      | (go_at_call 28; refine (HTS.out _).mono ?_; rintro e w3 ⟨rfl, b3⟩; have h03 := h01.below' (by omega) b3; have hm3 := hm1'.below' (by omega) b3; have z3 := b3.size; have K3 := K1.step b3; obtain ⟨c0, c1, c2, c3, c4, c5, c6, c7⟩ := fr_cells K3.1; obtain ⟨s0, s1, s2, s3, s4⟩ := cells5 K3.2.1))
    clear I9 K9 c0 c1 c2 c3 c4 c5 c6 c7 s0 s1 s2 s3 s4
    go_wp2_with fail
    refine (h_eqInt64S _ _ _ _ _ _ _ _ _ _ _ h8 h0g).mono ?_
    rintro e wh ⟨rfl, mh, rfl⟩
    go_wp2_with fail
    refine (h_heldInt64S _ _ _ _ 1 _ (hmg.drewN mh) (by omega) (by omega)).mono ?_
    rintro e wh' ⟨rfl, rfl⟩
    go_wp2_with fail
    go_ret
    exact ⟨rfl, below_drewN Kg.2.2.1 mh⟩
theorem w_SealFrame (k q t m r s v : Int) (A : Option Addr) (n c : Nat) (xs : List Int) (id : Int) (T M R S V : Int) (w : World) (w0 : ArgInts w A n c xs) (w1 : (Lit.int .i64 id).wf = true) (w2 : (Lit.int .i64 T).wf = true) (w3 : (Lit.int .i64 M).wf = true) (w4 : (Lit.int .i64 R).wf = true) (w5 : (Lit.int .i64 S).wf = true) (w6 : (Lit.int .i64 V).wf = true) :
    Calls Try.prog 6 #[.agg #[.int .i64 k, .int .i64 q, .int .i64 t, .int .i64 m, .int .i64 r, .int .i64 s, .int .i64 v, .slice A n c], .int .i64 id, .agg #[.int .i64 T, .int .i64 M, .int .i64 R, .int .i64 S, .int .i64 V]] w fun e w' => e = .returned (.bool true) ∧ Below w.heap.size w w' := by
  refine w_SealFrame_ k q t m r s v A n c xs id T M R S V (slC (frOk k q t m r s v xs) (stOk T M R S V) id) (if (slC (frOk k q t m r s v xs) (stOk T M R S V) id) = 0 then sealL k q t m r s v xs id T M R S V else []) ?_ (fun A n c B W h hB => s_SealFrame k q t m r s v A n c xs id T M R S V B W h hB) (fun A n c B W h hB => i_SealFrame k q t m r s v A n c xs id T M R S V B W h hB) w w0
  split
  · rename_i h0
    have := body_small (slC_zero h0).1
    simp [sealL, three]
    omega
  · simp
end Go.Proofs.Ytpcdachkmekjgaa

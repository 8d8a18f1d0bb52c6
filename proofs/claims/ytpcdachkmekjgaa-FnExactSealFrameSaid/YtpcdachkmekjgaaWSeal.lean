/- The walks of the laws on SealNumber and SealFrame. -/
import Derived.Test.YtpcdachkmekjgaaSeal2
import Derived.Test.YtpcdachkmekjgaaFrmH
import Derived.Test.YtpcdachkmekjgaaEmpH2
import Derived.Deep.RegionHeld3
import Derived.RegionTactic
import Derived.BigRegion
namespace Go.Proofs.Ytpcdachkmekjgaa
open Go.RowKit
set_option linter.unusedSimpArgs false
set_option linter.unusedVariables false
/-- Two arguments' boxes lie as they lay. -/
def Keep2 (w : World) (F S : Obj) (W : World) : Prop := W.heap[w.heap.size]? = some F ∧ W.heap[w.heap.size + 1]? = some S ∧ Below w.heap.size w W ∧ w.heap.size + 1 < W.heap.size
theorem Keep2.step {w : World} {F S : Obj} {W W' : World} (h : Keep2 w F S W) (hb : Below W.heap.size W W') : Keep2 w F S W' :=
  ⟨(hb.block _ (by have := h.2.2.2; omega)).trans h.1, (hb.block _ h.2.2.2).trans h.2.1, h.2.2.1.trans (hb.mono (by have := h.2.2.2; omega)), Nat.lt_of_lt_of_le h.2.2.2 hb.size⟩
theorem Keep2.alloc {w : World} {F S : Obj} {W : World} (h : Keep2 w F S W) (o : Obj) : Keep2 w F S (W.alloc o) := h.step ((Below.refl _ _).alloc (Nat.le_refl _) o)
theorem Keep2.drewN {w : World} {F S : Obj} {W : World} (h : Keep2 w F S W) (m : Nat) : Keep2 w F S (W.drewN m) := ⟨h.1, h.2.1, below_drewN h.2.2.1 m, h.2.2.2⟩
theorem Keep2.drew {w : World} {F S : Obj} {W : World} (h : Keep2 w F S W) : Keep2 w F S W.drew := h.drewN 1
theorem Keep2.grown {w : World} {F S : Obj} {W W' : World} {row : Option Nat} (h : Keep2 w F S W) (hg : W.grownBy W' row) (hr : ∀ g, row = some g → w.heap.size + 1 < g) : Keep2 w F S W' :=
  ⟨(hg.block _ (by have := h.2.2.2; omega) (fun e => by have := hr _ e.symm; omega)).trans h.1, (hg.block _ h.2.2.2 (fun e => by have := hr _ e.symm; omega)).trans h.2.1, h.2.2.1.trans (grown_below hg (by have := h.2.2.2; omega) (fun g e => by have := hr g e; omega)), Nat.lt_of_lt_of_le h.2.2.2 hg.size⟩
theorem Keep2.new (w : World) (a b : Array Value) (ta tb : TypeId) : Keep2 w (.cells a ta (0, 0)) (.cells b tb (0, 0)) ((w.alloc (.cells a ta)).alloc (.cells b tb)) :=
  ⟨(alloc2 w _ _).1, (alloc2 w _ _).2, ((Below.refl _ _).alloc (Nat.le_refl _) _).alloc (by simp) _, by simp⟩
set_option maxHeartbeats 4000000 in
theorem w_SealNumber_ (k q t m r s v : Int) (A : Option Addr) (n c : Nat) (xs : List Int) (id : Int) (T M R S V : Int) (C N : Int)
    (hs : ∀ (A : Option Addr) (n c B : Nat) (W : World), IntsAt W B A n c xs → B ≤ W.heap.size → Calls Try.prog 27 #[.agg #[.int .i64 k, .int .i64 q, .int .i64 t, .int .i64 m, .int .i64 r, .int .i64 s, .int .i64 v, .slice A n c], .int .i64 id, .agg #[.int .i64 T, .int .i64 M, .int .i64 R, .int .i64 S, .int .i64 V]] W fun e W' => e = .returned (.tuple #[.int .i64 N, .int .i64 C]) ∧ Below W.heap.size W W')
    (hi : ∀ (A : Option Addr) (n c B : Nat) (W : World), IntsAt W B A n c xs → B ≤ W.heap.size → Calls Try.prog 29 #[.agg #[.int .i64 k, .int .i64 q, .int .i64 t, .int .i64 m, .int .i64 r, .int .i64 s, .int .i64 v, .slice A n c], .int .i64 id, .agg #[.int .i64 T, .int .i64 M, .int .i64 R, .int .i64 S, .int .i64 V]] W fun e W' => e = .returned (.tuple #[.int .i64 N, .int .i64 C]) ∧ Below W.heap.size W W')
    (w : World) (w0 : ArgInts w A n c xs) :
    Calls Try.prog 5 #[.agg #[.int .i64 k, .int .i64 q, .int .i64 t, .int .i64 m, .int .i64 r, .int .i64 s, .int .i64 v, .slice A n c], .int .i64 id, .agg #[.int .i64 T, .int .i64 M, .int .i64 R, .int .i64 S, .int .i64 V]] w fun e w' => e = .returned (.bool true) ∧ Below w.heap.size w w' := by
  have hm : n ≤ maxLen := Nat.le_trans w0.1 w0.2.1
  by_cases hbig : 1048576 < n
  · have hs : decide ((1048576 : Int) - n < 0) = true := by simp; omega
    clear w0 hi
    go_enter Try.func5, Try.ntmps5
    go_wp2_with fail
    refine (h_szFrame_no k q t m r s v A n c _ hbig hm).mono ?_
    rintro e w1 ⟨rfl, hb⟩
    go_wp2
    go_ret
    exact ⟨rfl, (((Below.refl _ _).alloc (Nat.le_refl _) _).alloc (by simp) _).trans (hb.mono (by simp; omega))⟩
  · have hI := w0.2.2.2.2 (by omega)
    clear w0 hm
    have hzl : xs.length ≤ 16777216 := by rw [hI.len]; exact hI.small
    have HS := Lib.hid hs; have HI := Lib.hid hi; clear hs hi
    have K0 := Keep2.new w #[.int .i64 k, .int .i64 q, .int .i64 t, .int .i64 m, .int .i64 r, .int .i64 s, .int .i64 v, .slice A n c] #[.int .i64 T, .int .i64 M, .int .i64 R, .int .i64 S, .int .i64 V] 26 23
    have HTF := Lib.hid (fun (W : World) (K : Keep2 w (.cells #[.int .i64 k, .int .i64 q, .int .i64 t, .int .i64 m, .int .i64 r, .int .i64 s, .int .i64 v, .slice A n c] 26 (0, 0)) (.cells #[.int .i64 T, .int .i64 M, .int .i64 R, .int .i64 S, .int .i64 V] 23 (0, 0)) W) => h_toFrame k q t m r s v A n c xs w.heap.size W (hI.below K.2.2.1) (by have := K.2.2.2; omega))
    have HTS := Lib.hid (fun (W : World) => h_toState T M R S V W)
    go_enter Try.func5, Try.ntmps5
    go_wp2_with fail
    refine (h_szFrame_yes k q t m r s v A n c _ (by omega)).mono ?_
    rintro e w1 ⟨rfl, hb⟩
    have K1 := (K0.step hb).drew
    clear K0 hb
    obtain ⟨c0, c1, c2, c3, c4, c5, c6, c7⟩ := fr_cells K1.1
    obtain ⟨s0, s1, s2, s3, s4⟩ := cells5 K1.2.1
    go_wp2_with fail
    go_region_held3 (fun w' => w'.cell? ⟨w.heap.size, 0, none⟩ = some (.int .i64 k) ∧ w'.cell? ⟨w.heap.size, 1, none⟩ = some (.int .i64 q) ∧ w'.cell? ⟨w.heap.size, 2, none⟩ = some (.int .i64 t) ∧ w'.cell? ⟨w.heap.size, 3, none⟩ = some (.int .i64 m) ∧ w'.cell? ⟨w.heap.size, 4, none⟩ = some (.int .i64 r) ∧ w'.cell? ⟨w.heap.size, 5, none⟩ = some (.int .i64 s) ∧ w'.cell? ⟨w.heap.size, 6, none⟩ = some (.int .i64 v) ∧ w'.cell? ⟨w.heap.size, 7, none⟩ = some (.slice A n c) ∧ w'.cell? ⟨w.heap.size + 1, 0, none⟩ = some (.int .i64 T) ∧ w'.cell? ⟨w.heap.size + 1, 1, none⟩ = some (.int .i64 M) ∧ w'.cell? ⟨w.heap.size + 1, 2, none⟩ = some (.int .i64 R) ∧ w'.cell? ⟨w.heap.size + 1, 3, none⟩ = some (.int .i64 S) ∧ w'.cell? ⟨w.heap.size + 1, 4, none⟩ = some (.int .i64 V)) (go_keep) (first
      | (go_at_call 27; refine (HS.out _ _ _ _ _ I9 (Nat.le_refl _)).mono ?_; rintro e w5 ⟨rfl, b5⟩; have K5 := K9.step b5; obtain ⟨c0, c1, c2, c3, c4, c5, c6, c7⟩ := fr_cells K5.1; obtain ⟨s0, s1, s2, s3, s4⟩ := cells5 K5.2.1)
      | (go_at_call 16; refine (HTF.out _ K3).mono ?_; rintro e w2 ⟨vs, rfl, o2, b2⟩; obtain ⟨As, cs, rfl, I9⟩ := o2.ints hzl; have K9 := K3.step b2; obtain ⟨c0, c1, c2, c3, c4, c5, c6, c7⟩ := fr_cells K9.1; obtain ⟨s0, s1, s2, s3, s4⟩ := cells5 K9.2.1)
      | (go_at_call 16; refine (HTF.out _ K1).mono ?_; rintro e w2 ⟨vs, rfl, o2, b2⟩; obtain ⟨As, cs, rfl, I2⟩ := o2.ints hzl; have K2 := K1.step b2; obtain ⟨c0, c1, c2, c3, c4, c5, c6, c7⟩ := fr_cells K2.1; obtain ⟨s0, s1, s2, s3, s4⟩ := cells5 K2.2.1)
      | (go_at_call 28; refine (HTS.out _).mono ?_; rintro e w3 ⟨rfl, b3⟩; have I9 := (I2.below b3).more b3.size; have K9 := K2.step b3; obtain ⟨c0, c1, c2, c3, c4, c5, c6, c7⟩ := fr_cells K9.1; obtain ⟨s0, s1, s2, s3, s4⟩ := cells5 K9.2.1)
      | (go_at_call 28; refine (HTS.out _).mono ?_; rintro e w3 ⟨rfl, b3⟩; have K3 := K1.step b3; obtain ⟨c0, c1, c2, c3, c4, c5, c6, c7⟩ := fr_cells K3.1; obtain ⟨s0, s1, s2, s3, s4⟩ := cells5 K3.2.1))
    clear I9 K9
    go_wp2_with fail
    refine (HTF.out _ K5).mono ?_
    rintro e w6 ⟨vs, rfl, ox, b6⟩
    obtain ⟨Ax, cx, rfl, I⟩ := ox.ints hzl
    have z6 := b6.size
    have K6 := ((K5.step b6).alloc (.cells #[.int .i64 k, .int .i64 q, .int .i64 t, .int .i64 m, .int .i64 r, .int .i64 s, .int .i64 v, .slice Ax xs.length cx] 32)).drew
    have P6 : (w6.alloc (.cells #[.int .i64 k, .int .i64 q, .int .i64 t, .int .i64 m, .int .i64 r, .int .i64 s, .int .i64 v, .slice Ax xs.length cx] 32)).drew.heap[w6.heap.size]? = some (.cells #[.int .i64 k, .int .i64 q, .int .i64 t, .int .i64 m, .int .i64 r, .int .i64 s, .int .i64 v, .slice Ax xs.length cx] 32 (0, 0)) := heap_alloc_new w6 (.cells #[.int .i64 k, .int .i64 q, .int .i64 t, .int .i64 m, .int .i64 r, .int .i64 s, .int .i64 v, .slice Ax xs.length cx] 32)
    have X6 := (I.alloc (Nat.le_refl _) (.cells #[.int .i64 k, .int .i64 q, .int .i64 t, .int .i64 m, .int .i64 r, .int .i64 s, .int .i64 v, .slice Ax xs.length cx] 32)).drew
    have ox6 := (ox.alloc (.cells #[.int .i64 k, .int .i64 q, .int .i64 t, .int .i64 m, .int .i64 r, .int .i64 s, .int .i64 v, .slice Ax xs.length cx] 32)).drew
    have ox_lt := ox.lt
    have y6 : w6.heap.size < (w6.alloc (.cells #[.int .i64 k, .int .i64 q, .int .i64 t, .int .i64 m, .int .i64 r, .int .i64 s, .int .i64 v, .slice Ax xs.length cx] 32)).drew.heap.size := by show w6.heap.size < (w6.alloc _).heap.size; simp
    clear c0 c1 c2 c3 c4 c5 c6 c7 s0 s1 s2 s3 s4 I ox
    go_wp2_with fail
    generalize w6.alloc _ = W at *
    have zW : W.drew.heap.size = W.heap.size := rfl
    generalize hg : w6.heap.size = g at *
    have K6' := K6
    obtain ⟨-, -, -, y7⟩ := K6'
    have c7' := fr_cells P6
    obtain ⟨c0, c1, c2, c3, c4, c5, c6, c7⟩ := c7'
    obtain ⟨s0, s1, s2, s3, s4⟩ := cells5 K6.2.1
    go_region_held3 (fun w' => w'.cell? ⟨g, 0, none⟩ = some (.int .i64 k) ∧ w'.cell? ⟨g, 1, none⟩ = some (.int .i64 q) ∧ w'.cell? ⟨g, 2, none⟩ = some (.int .i64 t) ∧ w'.cell? ⟨g, 3, none⟩ = some (.int .i64 m) ∧ w'.cell? ⟨g, 4, none⟩ = some (.int .i64 r) ∧ w'.cell? ⟨g, 5, none⟩ = some (.int .i64 s) ∧ w'.cell? ⟨g, 6, none⟩ = some (.int .i64 v) ∧ w'.cell? ⟨g, 7, none⟩ = some (.slice Ax xs.length cx) ∧ w'.cell? ⟨w.heap.size + 1, 0, none⟩ = some (.int .i64 T) ∧ w'.cell? ⟨w.heap.size + 1, 1, none⟩ = some (.int .i64 M) ∧ w'.cell? ⟨w.heap.size + 1, 2, none⟩ = some (.int .i64 R) ∧ w'.cell? ⟨w.heap.size + 1, 3, none⟩ = some (.int .i64 S) ∧ w'.cell? ⟨w.heap.size + 1, 4, none⟩ = some (.int .i64 V)) (go_keep) (first
      | (go_at_call 29; refine (HI.out _ _ _ _ _ X8 (by omega)).mono ?_; rintro e w9 ⟨rfl, b9⟩; have z9 := b9.size; have K9 := K8.step b9; have P9 := (b9.block g (by omega)).trans P8; have X9 := X8.below' (by omega) b9; have ox9 := ox8.below_ b9; obtain ⟨c0, c1, c2, c3, c4, c5, c6, c7⟩ := fr_cells P9; obtain ⟨s0, s1, s2, s3, s4⟩ := cells5 K9.2.1)
      | (go_at_call 28; refine (HTS.out _).mono ?_; rintro e w8 ⟨rfl, b8⟩; have z8 := b8.size; have K8 := K6.step b8; have P8 := (b8.block g (by omega)).trans P6; have X8 := X6.below' (by omega) b8; have ox8 := ox6.below_ b8;  obtain ⟨c0, c1, c2, c3, c4, c5, c6, c7⟩ := fr_cells P8; obtain ⟨s0, s1, s2, s3, s4⟩ := cells5 K8.2.1))
    clear c0 c1 c2 c3 c4 c5 c6 c7 s0 s1 s2 s3 s4
    have Ka := K9; have Pa := P9; have Xa := X9; have zv := Nat.le_refl w9.heap.size
    have Ia := hI.below Ka.2.2.1
    clear K9 P9 X9 ox9 ox8 ox6
    generalize hY : w9 = Y at *
    clear hY
    go_wp2_with fail
    obtain ⟨c0, c1, c2, c3, c4, c5, c6, c7⟩ := fr_cells Ka.1
    obtain ⟨d0', d1', d2', d3', d4', d5', d6', d7'⟩ := fr_cells Pa
    have ya := Ka.2.2.2
    have hT : Calls Try.prog 16 #[.agg #[.int .i64 k, .int .i64 q, .int .i64 t, .int .i64 m, .int .i64 r, .int .i64 s, .int .i64 v, .slice A n c]] Y.drew fun e w7 => ∃ At ct, e = .returned (.agg #[.int .i64 k, .int .i64 q, .int .i64 t, .int .i64 m, .int .i64 r, .int .i64 s, .int .i64 v, .slice At xs.length ct]) ∧ IntsAt w7 w7.heap.size At xs.length ct xs ∧ IntsAt w7 g Ax xs.length cx xs ∧ Keep2 w (.cells #[.int .i64 k, .int .i64 q, .int .i64 t, .int .i64 m, .int .i64 r, .int .i64 s, .int .i64 v, .slice A n c] 26 (0, 0)) (.cells #[.int .i64 T, .int .i64 M, .int .i64 R, .int .i64 S, .int .i64 V] 23 (0, 0)) w7 ∧ w7.heap[g]? = some (.cells #[.int .i64 k, .int .i64 q, .int .i64 t, .int .i64 m, .int .i64 r, .int .i64 s, .int .i64 v, .slice Ax xs.length cx] 32 (0, 0)) ∧ Y.heap.size ≤ w7.heap.size ∧ Below Y.heap.size Y w7 := by
      refine (h_toFrame k q t m r s v A n c xs _ Y.drew Ia.drew (show w.heap.size ≤ Y.heap.size by omega)).mono ?_
      rintro e w7 ⟨vs, rfl, o7, b7⟩
      obtain ⟨At, ct, rfl, I7⟩ := o7.ints hzl
      have B7 : Below Y.heap.size Y w7 := ⟨b7.os, b7.tape, b7.output, b7.size, b7.block⟩
      exact ⟨At, ct, rfl, I7, Xa.below' (show g ≤ Y.heap.size by omega) B7, Ka.step B7, (B7.block g (by omega)).trans Pa, B7.size, B7⟩
    have HT := Lib.hid hT
    clear hT
    go_wp2_with fail
    go_region_held3 (fun w' => w'.cell? ⟨w.heap.size, 0, none⟩ = some (.int .i64 k) ∧ w'.cell? ⟨w.heap.size, 1, none⟩ = some (.int .i64 q) ∧ w'.cell? ⟨w.heap.size, 2, none⟩ = some (.int .i64 t) ∧ w'.cell? ⟨w.heap.size, 3, none⟩ = some (.int .i64 m) ∧ w'.cell? ⟨w.heap.size, 4, none⟩ = some (.int .i64 r) ∧ w'.cell? ⟨w.heap.size, 5, none⟩ = some (.int .i64 s) ∧ w'.cell? ⟨w.heap.size, 6, none⟩ = some (.int .i64 v) ∧ w'.cell? ⟨w.heap.size, 7, none⟩ = some (.slice A n c) ∧ w'.cell? ⟨g, 0, none⟩ = some (.int .i64 k) ∧ w'.cell? ⟨g, 1, none⟩ = some (.int .i64 q) ∧ w'.cell? ⟨g, 2, none⟩ = some (.int .i64 t) ∧ w'.cell? ⟨g, 3, none⟩ = some (.int .i64 m) ∧ w'.cell? ⟨g, 4, none⟩ = some (.int .i64 r) ∧ w'.cell? ⟨g, 5, none⟩ = some (.int .i64 s) ∧ w'.cell? ⟨g, 6, none⟩ = some (.int .i64 v) ∧ w'.cell? ⟨g, 7, none⟩ = some (.slice Ax xs.length cx)) (go_keep) (first
      | (go_at_call 16; refine HT.out.mono ?_; rintro e wb ⟨At, ct, rfl, Ib, Xb, Kb, Pb, zb, Bb⟩; obtain ⟨c0, c1, c2, c3, c4, c5, c6, c7⟩ := fr_cells Kb.1; obtain ⟨d0', d1', d2', d3', d4', d5', d6', d7'⟩ := fr_cells Pb)
      | (go_at_call 19; refine (h_eqFrame k q t m r s v _ _ _ _ _ _ xs _ _ _ Xb Ib (by omega) (by omega)).mono ?_; rintro e wc ⟨rfl, bc⟩; have Kc := Kb.step bc; have Pc := (bc.block g (by omega)).trans Pb; have Bc := Bb.trans (bc.mono zb); have zc := bc.size; obtain ⟨c0, c1, c2, c3, c4, c5, c6, c7⟩ := fr_cells Kc.1; obtain ⟨d0', d1', d2', d3', d4', d5', d6', d7'⟩ := fr_cells Pc))
    go_wp2
    go_ret
    exact ⟨rfl, Kc.2.2.1⟩
theorem w_SealNumber (k q t m r s v : Int) (A : Option Addr) (n c : Nat) (xs : List Int) (id : Int) (T M R S V : Int) (w : World) (w0 : ArgInts w A n c xs) (w1 : (Lit.int .i64 id).wf = true) (w2 : (Lit.int .i64 T).wf = true) (w3 : (Lit.int .i64 M).wf = true) (w4 : (Lit.int .i64 R).wf = true) (w5 : (Lit.int .i64 S).wf = true) (w6 : (Lit.int .i64 V).wf = true) :
    Calls Try.prog 5 #[.agg #[.int .i64 k, .int .i64 q, .int .i64 t, .int .i64 m, .int .i64 r, .int .i64 s, .int .i64 v, .slice A n c], .int .i64 id, .agg #[.int .i64 T, .int .i64 M, .int .i64 R, .int .i64 S, .int .i64 V]] w fun e w' => e = .returned (.bool true) ∧ Below w.heap.size w w' := by
  exact w_SealNumber_ k q t m r s v A n c xs id T M R S V (slC (frOk k q t m r s v xs) (stOk T M R S V) id) (if (slC (frOk k q t m r s v xs) (stOk T M R S V) id) = 0 then ((chkN k (bodyL k q t m r s v xs) id.toNat T M R S V : Nat) : Int) else 0) (fun A n c B W h hB => s_SealNumber k q t m r s v A n c xs id T M R S V B W h hB) (fun A n c B W h hB => i_SealNumber k q t m r s v A n c xs id T M R S V B W h hB) w w0
end Go.Proofs.Ytpcdachkmekjgaa

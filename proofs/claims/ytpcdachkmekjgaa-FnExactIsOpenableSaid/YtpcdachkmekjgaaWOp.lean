/- The walk of the law on IsOpenable. -/
import Derived.Test.YtpcdachkmekjgaaOFT
import Derived.Test.YtpcdachkmekjgaaFrmH
import Derived.Deep.RegionHeld3
import Derived.BigRegion
namespace Go.Proofs.Ytpcdachkmekjgaa
open Go.RowKit
set_option linter.unusedSimpArgs false
set_option linter.unusedVariables false
/-- An argument's box lies as it lay. -/
def KeepS (w : World) (F : Obj) (W : World) : Prop := W.heap[w.heap.size]? = some F ∧ Below w.heap.size w W ∧ w.heap.size < W.heap.size
theorem KeepS.step {w : World} {F : Obj} {W W' : World} (h : KeepS w F W) (hb : Below W.heap.size W W') : KeepS w F W' :=
  ⟨(hb.block _ h.2.2).trans h.1, h.2.1.trans (hb.mono (Nat.le_of_lt h.2.2)), Nat.lt_of_lt_of_le h.2.2 hb.size⟩
theorem KeepS.drew {w : World} {F : Obj} {W : World} (h : KeepS w F W) : KeepS w F W.drew := ⟨h.1, h.2.1.drew, h.2.2⟩
set_option maxHeartbeats 4000000 in
theorem w_IsOpenable (A : Option Addr) (n c : Nat) (xs : List Int) (id T M R S V : Int) (w : World) (w0 : ArgInts w A n c xs) (q0 : (Lit.int .i64 id).wf = true) (q1 : (Lit.int .i64 T).wf = true) (q2 : (Lit.int .i64 M).wf = true) (q3 : (Lit.int .i64 R).wf = true) (q4 : (Lit.int .i64 S).wf = true) (q5 : (Lit.int .i64 V).wf = true) :
    Calls Try.prog 7 #[.slice A n c, .int .i64 id, .agg #[.int .i64 T, .int .i64 M, .int .i64 R, .int .i64 S, .int .i64 V]] w fun e w' => e = .returned (.bool true) ∧ Below w.heap.size w w' := by
  clear q0 q1 q2 q3 q4 q5
  by_cases hbig : 1048576 < n
  · have hm' : n ≤ 9223372036854775807 := Nat.le_trans (Nat.le_trans w0.1 w0.2.1) (by unfold maxLen; omega)
    clear w0
    go_enter Try.func7, Try.ntmps7
    go_wp2
    go_ret
    exact ⟨rfl, (Below.refl _ _).alloc (Nat.le_refl _) _⟩
  · have hI := w0.2.2.2.2 (by omega)
    clear w0
    have hxl : xs.length ≤ 16777216 := by rw [hI.len]; exact hI.small
    have he := eqL_refl xs
    have HS := Lib.hid (fun A n c B W h hB => s_IsOpenable A n c xs id T M R S V B W h hB)
    have HI := Lib.hid (fun A n c B W h hB => i_IsOpenable A n c xs id T M R S V B W h hB)
    generalize (ofC xs id T M R S V == 0) = b at *
    have HTI := Lib.hid (fun (W : World) (K : KeepS w (.cells #[.int .i64 T, .int .i64 M, .int .i64 R, .int .i64 S, .int .i64 V] 23 (0, 0)) W) => h_toInt64S A n c xs w.heap.size W (hI.below K.2.1) (Nat.le_of_lt K.2.2))
    have HTS := Lib.hid (fun (W : World) => h_toState T M R S V W)
    have K0 : KeepS w (.cells #[.int .i64 T, .int .i64 M, .int .i64 R, .int .i64 S, .int .i64 V] 23 (0, 0)) (w.alloc (.cells #[.int .i64 T, .int .i64 M, .int .i64 R, .int .i64 S, .int .i64 V] 23)) := ⟨heap_alloc_new w _, (Below.refl _ _).alloc (Nat.le_refl _) _, by simp⟩
    go_enter Try.func7, Try.ntmps7
    go_upto_region 3 with fail
    have K1 := K0.drew
    clear K0
    obtain ⟨s0, s1, s2, s3, s4⟩ := cells5 K1.1
    go_region_held3 (fun w' => w'.cell? ⟨w.heap.size, 0, none⟩ = some (.int .i64 T) ∧ w'.cell? ⟨w.heap.size, 1, none⟩ = some (.int .i64 M) ∧ w'.cell? ⟨w.heap.size, 2, none⟩ = some (.int .i64 R) ∧ w'.cell? ⟨w.heap.size, 3, none⟩ = some (.int .i64 S) ∧ w'.cell? ⟨w.heap.size, 4, none⟩ = some (.int .i64 V)) (go_keep) (first
      | (go_at_call 32; refine (HS.out _ _ _ _ _ I9 (Nat.le_refl _)).mono ?_; rintro e w5 ⟨rfl, b5⟩; have K5 := K9.step b5; obtain ⟨s0, s1, s2, s3, s4⟩ := cells5 K5.1)
      | (go_at_call 24; refine (HTI.out _ K3).mono ?_; rintro e w2 ⟨vs, rfl, o2, b2⟩; obtain ⟨As, cs, rfl, I9⟩ := o2.ints hxl; have K9 := K3.step b2; obtain ⟨s0, s1, s2, s3, s4⟩ := cells5 K9.1)
      | (go_at_call 24; refine (HTI.out _ K1).mono ?_; rintro e w2 ⟨vs, rfl, o2, b2⟩; obtain ⟨As, cs, rfl, I2⟩ := o2.ints hxl; have K2 := K1.step b2; obtain ⟨s0, s1, s2, s3, s4⟩ := cells5 K2.1)
      | (go_at_call 28; refine (HTS.out _).mono ?_; rintro e w3 ⟨rfl, b3⟩; have I9 := (I2.below b3).more b3.size; have K9 := K2.step b3; obtain ⟨s0, s1, s2, s3, s4⟩ := cells5 K9.1)
      | (go_at_call 28; refine (HTS.out _).mono ?_; rintro e w3 ⟨rfl, b3⟩; have K3 := K1.step b3; obtain ⟨s0, s1, s2, s3, s4⟩ := cells5 K3.1))
    clear I9 K9
    go_wp2_with fail
    refine (HTI.out _ K5).mono ?_
    rintro e w6 ⟨vx, rfl, ox, b6⟩
    obtain ⟨Ax, cx, rfl, ix⟩ := ox.ints hxl
    have K6 := K5.step b6
    obtain ⟨s0, s1, s2, s3, s4⟩ := cells5 K6.1
    go_wp2_with fail
    refine (HTS.out _).mono ?_
    rintro e w7 ⟨rfl, b7⟩
    have K7 := K6.step b7
    have ix7 := (ix.below b7).more b7.size
    go_wp2_with fail
    refine (HI.out _ _ _ _ _ ix7 (Nat.le_refl _)).mono ?_
    rintro e w8 ⟨rfl, b8⟩
    have K8 := K7.step b8
    have ix8 := (ix7.below b8).more b8.size
    go_wp2_with fail
    refine (HTI.out _ K8).mono ?_
    rintro e w9 ⟨vy, rfl, oy, b9⟩
    obtain ⟨Ay, cy, rfl, iy⟩ := oy.ints hxl
    have K9 := K8.step b9
    have ix9 := ix8.below b9
    go_wp2_with fail
    refine (h_eqInt64S _ _ _ _ _ _ _ _ _ _ _ ix9 iy).mono ?_
    rintro e wa ⟨rfl, ma, rfl⟩
    go_wp2
    go_ret
    exact ⟨rfl, below_drewN K9.2.1 ma⟩
end Go.Proofs.Ytpcdachkmekjgaa

/- For every input the Go law FnExactEmptyFrame of the given program returns true and leaves its arguments as they were. No conditions. The frame follows the guide's proof-skeleton. -/
import Derived.Test.YtecelofoffdjlaaRows
import Derived.WalkKit
import Derived.ProofKit
import Derived.OpenShut
import Derived.ShutString
import Derived.ChangeOld
import Derived.Below
import Derived.Lib.SmallJoins
import Derived.Test.YtecelofoffdjlaaOpen
import Derived.Test.YtecelofoffdjlaaWEmp
namespace Go.Proofs.Ytecelofoffdjlaa.fnExactEmptyFrame
open Go.Proofs.Ytecelofoffdjlaa
open Go.ChangeShapes Go.WideShapes Go.ChangeAt Go.RowKit Go.Joins
open Go.ChangeMaps (open_string shut_string)
set_option linter.unusedVariables false
set_option linter.unusedSimpArgs false

theorem own : ownKnob Try.prog.godebug = none := by kernel_rfl
theorem laidOut : laidOutB Try.prog = true := by kernel_rfl

set_option maxRecDepth 100000 in
theorem lifted (os : Os) (started : os.Started) (H : Type) (enc : TypeId × Value → H) :
    ReturnsInHanded {} Try.checked os 7 .any (Rows.fnExactEmptyFrameSpec.pre6 enc Try.prog Try.f7 Rows.fnExactEmptyFrameRow.domain false) (Rows.fnExactEmptyFrameSpec.post enc Try.prog Try.f7 false true false false) := by
  refine returnsInHanded_of_change (C := Try.checked) own started (by kernel_rfl) Try.func7
    (ChangeSpec.witness6 (enc := enc) (C := Try.checked) false ⟨#[], #[.agg #[.int .i64 0, .int .i64 0, .int .i64 0, .int .i64 0, .bool false], .agg #[.int .i64 0, .int .i64 0, .int .i64 0, .int .i64 0, .int .i64 0]], []⟩ 8 (by kernel_rfl) (by kernel_rfl) (by kernel_rfl) (by kernel_rfl)) ?_
  intro W base args ds gs before hval0 hW hcnd _
  have hval : ∀ (j : Nat) t v, Try.f7.params[j]? = some t → args[j]? = some v → Value.okWide Try.prog W .any base t v := hval0
  have hW' := hW
  obtain ⟨p, q, hA0, hV, rfl, hfz, hnd⟩ := hW
  have hA : DataW.TrodAll enc Try.prog W 0 (fun _ => true) true Try.f7.params.toList args.toList ds p := hA0
  rw [Try.params7] at hA hval
  obtain ⟨v0, vs0, d0, ds0, p0, q0, hargs, rfl, rfl, h0, r0⟩ := trodAll_cons hA
  obtain ⟨v1, vs1, d1, ds1, p1, q1, rfl, rfl, rfl, h1, r1⟩ := trodAll_cons r0
  obtain ⟨rfl, rfl, rfl⟩ := trodAll_nil r1
  obtain rfl : args = #[v0, v1] := by cases args; simp_all
  obtain ⟨rfl, rfl⟩ := trodVars_none hV
  have k0 := h0
  have lt0 : ∀ x ∈ p0, x.block < W.heap.size := by obtain ⟨m, hm⟩ := k0; exact DataW.trod_lt m _ _ _ hm
  obtain ⟨l0, n0, rfl, hl0, hf0⟩ := open_agg Try.underlying23 (by kernel_rfl) (by kernel_rfl) (hval 0 23 v0 rfl rfl) h0
  obtain ⟨c0_0, c0_1, c0_2, c0_3, c0_4, rfl⟩ := list5 (hl0.trans rfl)
  obtain ⟨_, y0_0, ec0_0, t0_0⟩ := hf0 0 _ rfl
  simp at ec0_0; subst ec0_0
  obtain ⟨a0a, ga0a, _, w0a⟩ := DataW.trod_int Try.underlying2 t0_0
  simp at ga0a; subst ga0a
  obtain ⟨_, y0_1, ec0_1, t0_1⟩ := hf0 1 _ rfl
  simp at ec0_1; subst ec0_1
  obtain ⟨a0b, ga0b, _, w0b⟩ := DataW.trod_int Try.underlying2 t0_1
  simp at ga0b; subst ga0b
  obtain ⟨_, y0_2, ec0_2, t0_2⟩ := hf0 2 _ rfl
  simp at ec0_2; subst ec0_2
  obtain ⟨a0c, ga0c, _, w0c⟩ := DataW.trod_int Try.underlying2 t0_2
  simp at ga0c; subst ga0c
  obtain ⟨_, y0_3, ec0_3, t0_3⟩ := hf0 3 _ rfl
  simp at ec0_3; subst ec0_3
  obtain ⟨a0d, ga0d, _, w0d⟩ := DataW.trod_int Try.underlying2 t0_3
  simp at ga0d; subst ga0d
  obtain ⟨_, y0_4, ec0_4, t0_4⟩ := hf0 4 _ rfl
  simp at ec0_4; subst ec0_4
  obtain ⟨a0e, ga0e, _⟩ := DataW.trod_bool Try.underlying4 t0_4
  simp at ga0e; subst ga0e
  have k1 := h1
  have lt1 : ∀ x ∈ p1, x.block < W.heap.size := by obtain ⟨m, hm⟩ := k1; exact DataW.trod_lt m _ _ _ hm
  obtain ⟨l1, n1, rfl, hl1, hf1⟩ := open_agg Try.underlying40 (by kernel_rfl) (by kernel_rfl) (hval 1 40 v1 rfl rfl) h1
  obtain ⟨c1_0, c1_1, c1_2, c1_3, c1_4, rfl⟩ := list5 (hl1.trans rfl)
  obtain ⟨_, y1_0, ec1_0, t1_0⟩ := hf1 0 _ rfl
  simp at ec1_0; subst ec1_0
  obtain ⟨a1a, ga1a, _, w1a⟩ := DataW.trod_int Try.underlying2 t1_0
  simp at ga1a; subst ga1a
  obtain ⟨_, y1_1, ec1_1, t1_1⟩ := hf1 1 _ rfl
  simp at ec1_1; subst ec1_1
  obtain ⟨a1b, ga1b, _, w1b⟩ := DataW.trod_int Try.underlying2 t1_1
  simp at ga1b; subst ga1b
  obtain ⟨_, y1_2, ec1_2, t1_2⟩ := hf1 2 _ rfl
  simp at ec1_2; subst ec1_2
  obtain ⟨a1c, ga1c, _, w1c⟩ := DataW.trod_int Try.underlying2 t1_2
  simp at ga1c; subst ga1c
  obtain ⟨_, y1_3, ec1_3, t1_3⟩ := hf1 3 _ rfl
  simp at ec1_3; subst ec1_3
  obtain ⟨a1d, ga1d, _, w1d⟩ := DataW.trod_int Try.underlying2 t1_3
  simp at ga1d; subst ga1d
  obtain ⟨_, y1_4, ec1_4, t1_4⟩ := hf1 4 _ rfl
  simp at ec1_4; subst ec1_4
  obtain ⟨a1e, ga1e, _, w1e⟩ := DataW.trod_int Try.underlying2 t1_4
  simp at ga1e; subst ga1e
  clear hA0 hval0
  refine (w_EmptyFrame a0a a0b a0c a0d a0e a1a a1b a1c a1d a1e W w0a w0b w0c w0d w1a w1b w1c w1d w1e).mono fun e W' ⟨he, bel⟩ => ?_
  subst he
  exact ⟨_, rfl, _, _, _, [], _, [], hW', trodAll_mk1 (shut_bool Try.underlying4 _), (trodAll_cons_mk (Below.trod laidOut (by kernel_rfl) (of_decide_eq_true (by kernel_rfl)) k0 bel lt0) (trodAll_cons_mk (Below.trod laidOut (by kernel_rfl) (of_decide_eq_true (by kernel_rfl)) k1 bel lt1) trodAll_mk0)), rfl, bel.frame _, fun h => by cases h⟩

theorem over : Rows.fnExactEmptyFrameRow.holds Try.pinned (OpenSpec.ofChange Rows.fnExactEmptyFrameSpec) :=
  OpenClaim.holds_of_wide 7 Try.f7 rfl rfl rfl rfl rfl rfl rfl ⟨rfl, rfl, rfl, rfl, rfl⟩ rfl rfl rfl rfl rfl (by kernel_rfl) Try.func7 (by kernel_rfl)
    (of_decide_eq_true (by kernel_rfl)) (by unfold Func.isWrapper; first | (rw [if_pos (by decide +kernel)]; kernel_rfl) | (rw [if_neg (by decide +kernel)]; exact ⟨rfl, rfl⟩))
    (fun os started H enc _ => lifted os started H enc)

theorem proved : Rows.FnExactEmptyFrameSaid := over
#print axioms proved
end Go.Proofs.Ytecelofoffdjlaa.fnExactEmptyFrame

/- For every input the Go law FnExactFitsDescriptor of the given program returns true and leaves its arguments as they were. No conditions. The frame follows the guide's proof-skeleton. -/
import Derived.Test.YtecelofoffdjlaaRows
import Derived.WalkKit
import Derived.ProofKit
import Derived.OpenShut
import Derived.ShutString
import Derived.ChangeOld
import Derived.Below
import Derived.Lib.SmallJoins
import Derived.Test.YtecelofoffdjlaaOpen
import Derived.Test.YtecelofoffdjlaaOpenF
import Derived.Test.YtecelofoffdjlaaWFit
namespace Go.Proofs.Ytecelofoffdjlaa.fnExactFitsDescriptor
open Go.Proofs.Ytecelofoffdjlaa
open Go.ChangeShapes Go.WideShapes Go.ChangeAt Go.RowKit Go.Joins
open Go.ChangeMaps (open_string shut_string)
set_option linter.unusedVariables false
set_option linter.unusedSimpArgs false

theorem own : ownKnob Try.prog.godebug = none := by kernel_rfl
theorem laidOut : laidOutB Try.prog = true := by kernel_rfl

set_option maxRecDepth 100000 in
theorem lifted (os : Os) (started : os.Started) (H : Type) (enc : TypeId × Value → H) :
    ReturnsInHanded {} Try.checked os 6 .any (Rows.fnExactFitsDescriptorSpec.pre6 enc Try.prog Try.f6 Rows.fnExactFitsDescriptorRow.domain false) (Rows.fnExactFitsDescriptorSpec.post enc Try.prog Try.f6 false true false false) := by
  refine returnsInHanded_of_change (C := Try.checked) own started (by kernel_rfl) Try.func6
    (ChangeSpec.witness6 (enc := enc) (C := Try.checked) false ⟨#[], #[.agg #[.int .i64 0, .int .i64 0, .int .i64 0, .int .i64 0, .bool false], .agg #[.int .i64 0, .int .i64 0, .int .i64 0, .int .i64 0, .int .i64 0, .int .i64 0, .int .i64 0, .slice none 0 0]], []⟩ 8 (by kernel_rfl) (by kernel_rfl) (by kernel_rfl) (by kernel_rfl)) ?_
  intro W base args ds gs before hval0 hW hcnd _
  have hval : ∀ (j : Nat) t v, Try.f6.params[j]? = some t → args[j]? = some v → Value.okWide Try.prog W .any base t v := hval0
  have hW' := hW
  obtain ⟨p, q, hA0, hV, rfl, hfz, hnd⟩ := hW
  have hA : DataW.TrodAll enc Try.prog W 0 (fun _ => true) true Try.f6.params.toList args.toList ds p := hA0
  rw [Try.params6] at hA hval
  obtain ⟨v0, vs0, d0, ds0, p0, q0, hargs, rfl, rfl, h0, r0⟩ := trodAll_cons hA
  obtain ⟨v1, vs1, d1, ds1, p1, q1, rfl, rfl, rfl, h1, r1⟩ := trodAll_cons r0
  obtain ⟨rfl, rfl, rfl⟩ := trodAll_nil r1
  obtain rfl : args = #[v0, v1] := by cases args; simp_all
  obtain ⟨rfl, rfl⟩ := trodVars_none hV
  have k0 := h0
  have lt0 : ∀ x ∈ p0, x.block < W.heap.size := by obtain ⟨m, hm⟩ := k0; exact DataW.trod_lt m _ _ _ hm
  obtain ⟨l0, n0, rfl, hl0, hf0⟩ := open_agg Try.underlying23 (by kernel_rfl) (by kernel_rfl) (hval 0 23 v0 rfl rfl) h0
  obtain ⟨c0_0, c0_1, c0_2, c0_3, c0_4, rfl⟩ := list5 (hl0.trans rfl)
  obtain ⟨_, y0_0, ec0_0, t0_0⟩ := hf0 0 _ rfl
  simp at ec0_0; subst ec0_0
  obtain ⟨a0a, ga0a, _, w0a⟩ := DataW.trod_int Try.underlying2 t0_0
  simp at ga0a; subst ga0a
  obtain ⟨_, y0_1, ec0_1, t0_1⟩ := hf0 1 _ rfl
  simp at ec0_1; subst ec0_1
  obtain ⟨a0b, ga0b, _, w0b⟩ := DataW.trod_int Try.underlying2 t0_1
  simp at ga0b; subst ga0b
  obtain ⟨_, y0_2, ec0_2, t0_2⟩ := hf0 2 _ rfl
  simp at ec0_2; subst ec0_2
  obtain ⟨a0c, ga0c, _, w0c⟩ := DataW.trod_int Try.underlying2 t0_2
  simp at ga0c; subst ga0c
  obtain ⟨_, y0_3, ec0_3, t0_3⟩ := hf0 3 _ rfl
  simp at ec0_3; subst ec0_3
  obtain ⟨a0d, ga0d, _, w0d⟩ := DataW.trod_int Try.underlying2 t0_3
  simp at ga0d; subst ga0d
  obtain ⟨_, y0_4, ec0_4, t0_4⟩ := hf0 4 _ rfl
  simp at ec0_4; subst ec0_4
  obtain ⟨a0e, ga0e, _⟩ := DataW.trod_bool Try.underlying4 t0_4
  simp at ga0e; subst ga0e
  have k1 := h1
  have lt1 : ∀ x ∈ p1, x.block < W.heap.size := by obtain ⟨m, hm⟩ := k1; exact DataW.trod_lt m _ _ _ hm
  obtain ⟨a1a, a1b, a1c, a1d, a1e, a1f, a1g, A1, len1, cap1, z1, rfl, w1, -⟩ := open_frame (hval 1 42 v1 rfl rfl) h1
  clear hA0 hval0
  refine (w_FitsDescriptor a0a a0b a0c a0d a0e a1a a1b a1c a1d a1e a1f a1g A1 len1 cap1 z1 W w0a w0b w0c w0d w1).mono fun e W' ⟨he, bel⟩ => ?_
  subst he
  exact ⟨_, rfl, _, _, _, [], _, [], hW', trodAll_mk1 (shut_bool Try.underlying4 _), (trodAll_cons_mk (Below.trod laidOut (by kernel_rfl) (of_decide_eq_true (by kernel_rfl)) k0 bel lt0) (trodAll_cons_mk (Below.trod laidOut (by kernel_rfl) (of_decide_eq_true (by kernel_rfl)) k1 bel lt1) trodAll_mk0)), rfl, bel.frame _, fun h => by cases h⟩

theorem over : Rows.fnExactFitsDescriptorRow.holds Try.pinned (OpenSpec.ofChange Rows.fnExactFitsDescriptorSpec) :=
  OpenClaim.holds_of_wide 6 Try.f6 rfl rfl rfl rfl rfl rfl rfl ⟨rfl, rfl, rfl, rfl, rfl⟩ rfl rfl rfl rfl rfl (by kernel_rfl) Try.func6 (by kernel_rfl)
    (of_decide_eq_true (by kernel_rfl)) (by unfold Func.isWrapper; first | (rw [if_pos (by decide +kernel)]; kernel_rfl) | (rw [if_neg (by decide +kernel)]; exact ⟨rfl, rfl⟩))
    (fun os started H enc _ => lifted os started H enc)

theorem proved : Rows.FnExactFitsDescriptorSaid := over
#print axioms proved
end Go.Proofs.Ytecelofoffdjlaa.fnExactFitsDescriptor

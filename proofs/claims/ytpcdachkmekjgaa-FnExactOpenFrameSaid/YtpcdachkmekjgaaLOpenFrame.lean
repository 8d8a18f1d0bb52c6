/- For every input the Go law FnExactOpenFrame of the given program returns true and leaves its arguments as they were. No conditions. The frame follows the guide's proof-skeleton. -/
import Derived.Test.YtpcdachkmekjgaaRows
import Derived.WalkKit
import Derived.ProofKit
import Derived.OpenShut
import Derived.ShutString
import Derived.ChangeOld
import Derived.Below
import Derived.Lib.SmallJoins
import Derived.Test.YtpcdachkmekjgaaOpen
import Derived.Test.YtpcdachkmekjgaaWOF2
namespace Go.Proofs.Ytpcdachkmekjgaa.fnExactOpenFrame
open Go.Proofs.Ytpcdachkmekjgaa
open Go.ChangeShapes Go.WideShapes Go.ChangeAt Go.RowKit Go.Joins
open Go.ChangeMaps (open_string shut_string)
set_option linter.unusedVariables false
set_option linter.unusedSimpArgs false

theorem own : ownKnob Try.prog.godebug = none := by kernel_rfl
theorem laidOut : laidOutB Try.prog = true := by kernel_rfl

set_option maxRecDepth 100000 in
theorem lifted (os : Os) (started : os.Started) (H : Type) (enc : TypeId × Value → H) :
    ReturnsInHanded {} Try.checked os 8 .any (Rows.fnExactOpenFrameSpec.pre6 enc Try.prog Try.f8 Rows.fnExactOpenFrameRow.domain false) (Rows.fnExactOpenFrameSpec.post enc Try.prog Try.f8 false true false false) := by
  refine returnsInHanded_of_change (C := Try.checked) own started (by kernel_rfl) Try.func8
    (ChangeSpec.witness6 (enc := enc) (C := Try.checked) false ⟨#[], #[.slice none 0 0, .int .i64 0, .agg #[.int .i64 0, .int .i64 0, .int .i64 0, .int .i64 0, .int .i64 0]], []⟩ 8 (by kernel_rfl) (by kernel_rfl) (by kernel_rfl) (by kernel_rfl)) ?_
  intro W base args ds gs before hval0 hW hcnd _
  have hval : ∀ (j : Nat) t v, Try.f8.params[j]? = some t → args[j]? = some v → Value.okWide Try.prog W .any base t v := hval0
  have hW' := hW
  obtain ⟨p, q, hA0, hV, rfl, hfz, hnd⟩ := hW
  have hA : DataW.TrodAll enc Try.prog W 0 (fun _ => true) true Try.f8.params.toList args.toList ds p := hA0
  rw [Try.params8] at hA hval
  obtain ⟨v0, vs0, d0, ds0, p0, q0, hargs, rfl, rfl, h0, r0⟩ := trodAll_cons hA
  obtain ⟨v1, vs1, d1, ds1, p1, q1, rfl, rfl, rfl, h1, r1⟩ := trodAll_cons r0
  obtain ⟨v2, vs2, d2, ds2, p2, q2, rfl, rfl, rfl, h2, r2⟩ := trodAll_cons r1
  obtain ⟨rfl, rfl, rfl⟩ := trodAll_nil r2
  obtain rfl : args = #[v0, v1, v2] := by cases args; simp_all
  obtain ⟨rfl, rfl⟩ := trodVars_none hV
  obtain ⟨a0, len0, cap0, rfl⟩ := okWide_slice Try.underlying24 (hval 0 24 v0 rfl rfl)
  have k0 := h0
  have lt0 : ∀ x ∈ p0, x.block < W.heap.size := by obtain ⟨m, hm⟩ := k0; exact DataW.trod_lt m _ _ _ hm
  obtain ⟨z0, w0⟩ : ∃ zs, ArgInts W a0 len0 cap0 zs := by
    obtain ⟨fuel, hf⟩ := h0
    rcases open_ints Try.underlying24 Try.underlying2 (by kernel_rfl) hf with ⟨hcs, _⟩ | ⟨x, l, c, zs, hcs, _, hl, hm, hz, _, hcell, hwz⟩
    · simp [Value.cells] at hcs
      obtain ⟨rfl, rfl, rfl⟩ := hcs
      exact ⟨[], argInts_nil _⟩
    · simp [Value.cells] at hcs
      obtain ⟨rfl, rfl, rfl⟩ := hcs
      exact ⟨zs.take _, argInts_mk hl hm (by simpa using hz) hcell hwz⟩
  have k1 := h1
  have lt1 : ∀ x ∈ p1, x.block < W.heap.size := by obtain ⟨m, hm⟩ := k1; exact DataW.trod_lt m _ _ _ hm
  obtain ⟨a1, rfl, e1, f1, w1⟩ := open_int Try.underlying2 (hval 1 2 v1 rfl rfl) h1
  have k2 := h2
  have lt2 : ∀ x ∈ p2, x.block < W.heap.size := by obtain ⟨m, hm⟩ := k2; exact DataW.trod_lt m _ _ _ hm
  obtain ⟨l2, n2, rfl, hl2, hf2⟩ := open_agg Try.underlying23 (by kernel_rfl) (by kernel_rfl) (hval 2 23 v2 rfl rfl) h2
  obtain ⟨c2_0, c2_1, c2_2, c2_3, c2_4, rfl⟩ := list5 (hl2.trans rfl)
  obtain ⟨_, y2_0, ec2_0, t2_0⟩ := hf2 0 _ rfl
  simp at ec2_0; subst ec2_0
  obtain ⟨a2a, ga2a, _, w2a⟩ := DataW.trod_int Try.underlying2 t2_0
  simp at ga2a; subst ga2a
  obtain ⟨_, y2_1, ec2_1, t2_1⟩ := hf2 1 _ rfl
  simp at ec2_1; subst ec2_1
  obtain ⟨a2b, ga2b, _, w2b⟩ := DataW.trod_int Try.underlying2 t2_1
  simp at ga2b; subst ga2b
  obtain ⟨_, y2_2, ec2_2, t2_2⟩ := hf2 2 _ rfl
  simp at ec2_2; subst ec2_2
  obtain ⟨a2c, ga2c, _, w2c⟩ := DataW.trod_int Try.underlying2 t2_2
  simp at ga2c; subst ga2c
  obtain ⟨_, y2_3, ec2_3, t2_3⟩ := hf2 3 _ rfl
  simp at ec2_3; subst ec2_3
  obtain ⟨a2d, ga2d, _, w2d⟩ := DataW.trod_int Try.underlying2 t2_3
  simp at ga2d; subst ga2d
  obtain ⟨_, y2_4, ec2_4, t2_4⟩ := hf2 4 _ rfl
  simp at ec2_4; subst ec2_4
  obtain ⟨a2e, ga2e, _, w2e⟩ := DataW.trod_int Try.underlying2 t2_4
  simp at ga2e; subst ga2e
  clear hA0 hval0
  refine (w_OpenFrame a0 len0 cap0 z0 a1 a2a a2b a2c a2d a2e W w0 w1 w2a w2b w2c w2d w2e).mono fun e W' ⟨he, bel⟩ => ?_
  subst he
  exact ⟨_, rfl, _, _, _, [], _, [], hW', trodAll_mk1 (shut_bool Try.underlying4 _), (trodAll_cons_mk (Below.trod laidOut (by kernel_rfl) (of_decide_eq_true (by kernel_rfl)) k0 bel lt0) (trodAll_cons_mk (Below.trod laidOut (by kernel_rfl) (of_decide_eq_true (by kernel_rfl)) k1 bel lt1) (trodAll_cons_mk (Below.trod laidOut (by kernel_rfl) (of_decide_eq_true (by kernel_rfl)) k2 bel lt2) trodAll_mk0))), rfl, bel.frame _, fun h => by cases h⟩

theorem over : Rows.fnExactOpenFrameRow.holds Try.pinned (OpenSpec.ofChange Rows.fnExactOpenFrameSpec) :=
  OpenClaim.holds_of_wide 8 Try.f8 rfl rfl rfl rfl rfl rfl rfl ⟨rfl, rfl, rfl, rfl, rfl⟩ rfl rfl rfl rfl rfl (by kernel_rfl) Try.func8 (by kernel_rfl)
    (of_decide_eq_true (by kernel_rfl)) (by unfold Func.isWrapper; first | (rw [if_pos (by decide +kernel)]; kernel_rfl) | (rw [if_neg (by decide +kernel)]; exact ⟨rfl, rfl⟩))
    (fun os started H enc _ => lifted os started H enc)

theorem proved : Rows.FnExactOpenFrameSaid := over
#print axioms proved
end Go.Proofs.Ytpcdachkmekjgaa.fnExactOpenFrame

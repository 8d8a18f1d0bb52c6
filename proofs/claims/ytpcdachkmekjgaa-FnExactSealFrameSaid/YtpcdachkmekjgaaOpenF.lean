/- A struct argument whose fields are structs and slices: a frame, taken apart. -/
import Derived.Test.YtpcdachkmekjgaaOpen
import Derived.Test.YtpcdachkmekjgaaBase
import Derived.ChangeOld
namespace Go.Proofs.Ytpcdachkmekjgaa
open Go.Joins Go.ChangeShapes Go.WideShapes Go.RowKit Go.Deep
set_option linter.unusedSimpArgs false
set_option linter.unusedVariables false
theorem trod_fields {H : Type} {enc : TypeId × Value → H} {P : Program} {w : World} {base : Nat} {spare : Nat → Bool} {held : Bool} {t : TypeId} {fs : Array Field} {fuel : Nat} {cs : List Value} {x : DataW H × List MemPlace}
    (hs : P.underlying t = some (.struct fs)) (h : DataW.trod enc P w base spare held fuel t cs = some x) :
    ∃ n : Nat, cs.length = P.cellsOf t ∧ ∀ (j : Nat) (f : Field), fs[j]? = some f → ∃ y, DataW.trod enc P w base spare held n f.type ((cs.drop f.offset).take (P.cellsOf f.type)) = some y := by
  obtain ⟨xs, n, _, _, hl, hlen, hg⟩ := DataW.trod_struct hs h
  refine ⟨n, hl, fun j f hj => ?_⟩
  have h1 := hg j f hj
  have hjl := (Array.getElem?_eq_some_iff.1 hj).1
  rw [List.getElem?_eq_getElem (by omega)] at h1
  exact ⟨_, h1⟩
set_option maxRecDepth 20000 in
theorem open_state {H : Type} {enc : TypeId × Value → H} {w : World} {base : Nat} {spare : Nat → Bool} {held : Bool} {fuel : Nat} {cs : List Value} {x : DataW H × List MemPlace}
    (h : DataW.trod enc Try.prog w base spare held fuel 23 cs = some x) :
    ∃ a b c d e : Int, cs = [.int .i64 a, .int .i64 b, .int .i64 c, .int .i64 d, .int .i64 e] ∧ (Lit.int .i64 a).wf = true ∧ (Lit.int .i64 b).wf = true ∧ (Lit.int .i64 c).wf = true ∧ (Lit.int .i64 d).wf = true ∧ (Lit.int .i64 e).wf = true := by
  obtain ⟨n, hl, hf⟩ := trod_fields Try.underlying23 h
  obtain ⟨c0, c1, c2, c3, c4, rfl⟩ := list5 (hl.trans (by kernel_rfl))
  obtain ⟨y0, t0⟩ := hf 0 _ rfl
  obtain ⟨y1, t1⟩ := hf 1 _ rfl
  obtain ⟨y2, t2⟩ := hf 2 _ rfl
  obtain ⟨y3, t3⟩ := hf 3 _ rfl
  obtain ⟨y4, t4⟩ := hf 4 _ rfl
  have e1 : Try.prog.cellsOf 2 = 1 := by kernel_rfl
  simp [e1] at t0 t1 t2 t3 t4
  obtain ⟨a, ga, _, wa⟩ := DataW.trod_int Try.underlying2 t0
  obtain ⟨b, gb, _, wb⟩ := DataW.trod_int Try.underlying2 t1
  obtain ⟨c, gc, _, wc⟩ := DataW.trod_int Try.underlying2 t2
  obtain ⟨d, gd, _, wd⟩ := DataW.trod_int Try.underlying2 t3
  obtain ⟨e, ge, _, we⟩ := DataW.trod_int Try.underlying2 t4
  simp at ga gb gc gd ge
  subst ga gb gc gd ge
  exact ⟨a, b, c, d, e, rfl, wa, wb, wc, wd, we⟩
theorem open_argInts {H : Type} {enc : TypeId × Value → H} {w : World} {base : Nat} {held : Bool} {fuel : Nat} {v : Value} {x : DataW H × List MemPlace}
    (h : DataW.trod enc Try.prog w base (fun _ => true) held fuel 24 [v] = some x) :
    ∃ A n c zs, v = .slice A n c ∧ ArgInts w A n c zs := by
  rcases open_ints Try.underlying24 Try.underlying2 (by kernel_rfl) h with ⟨hcs, _⟩ | ⟨x, l, c, zs, hcs, _, hl, hm, hz, _, hcell, hwz⟩
  · simp at hcs
    subst hcs
    exact ⟨_, _, _, [], rfl, argInts_nil _⟩
  · simp at hcs
    subst hcs
    exact ⟨_, _, _, zs.take _, rfl, argInts_mk hl hm (by simpa using hz) hcell hwz⟩
set_option maxRecDepth 20000 in
theorem open_frame {H : Type} {enc : TypeId × Value → H} {w : World} {base : Nat} {held : Bool} {r : Reach} {b0 : Nat} {v : Value} {d : DataW H} {p : List MemPlace}
    (hv : Value.okWide Try.prog w r b0 26 v) (h : DataW.Trod enc Try.prog w base (fun _ => true) held 26 v d p) :
    ∃ (k q a b c d e : Int) (A : Option Addr) (n cp : Nat) (zs : List Int), v = .agg #[.int .i64 k, .int .i64 q, .int .i64 a, .int .i64 b, .int .i64 c, .int .i64 d, .int .i64 e, .slice A n cp] ∧ ArgInts w A n cp zs ∧
      (Lit.int .i64 k).wf = true ∧ (Lit.int .i64 q).wf = true ∧ (Lit.int .i64 a).wf = true ∧ (Lit.int .i64 b).wf = true ∧ (Lit.int .i64 c).wf = true ∧ (Lit.int .i64 d).wf = true ∧ (Lit.int .i64 e).wf = true := by
  obtain ⟨cs, rfl, hsz⟩ := okWide_struct Try.underlying26 hv
  obtain ⟨l⟩ := cs
  obtain ⟨fuel, h⟩ := h
  obtain ⟨n, hl, hf⟩ := trod_fields Try.underlying26 h
  simp only [Value.cells] at hl hf
  obtain ⟨c0, c1, c2, c3, c4, c5, c6, c7, rfl⟩ := list8 (hl.trans (by kernel_rfl))
  obtain ⟨y0, t0⟩ := hf 0 _ rfl
  obtain ⟨y1, t1⟩ := hf 1 _ rfl
  obtain ⟨y2, t2⟩ := hf 2 _ rfl
  obtain ⟨y3, t3⟩ := hf 3 _ rfl
  have e1 : Try.prog.cellsOf 2 = 1 := by kernel_rfl
  have e5 : Try.prog.cellsOf 23 = 5 := by kernel_rfl
  have eS : Try.prog.cellsOf 24 = 1 := by kernel_rfl
  simp [e1, e5, eS] at t0 t1 t2 t3
  obtain ⟨k, gk, _, wk⟩ := DataW.trod_int Try.underlying2 t0
  obtain ⟨q, gq, _, wq⟩ := DataW.trod_int Try.underlying2 t1
  obtain ⟨a, b, c, d, e, gs, wa, wb, wc, wd, we⟩ := open_state t2
  obtain ⟨A, m, cp, zs, rfl, hA⟩ := open_argInts t3
  simp at gk gq gs
  obtain ⟨rfl, rfl, rfl, rfl, rfl⟩ := gs
  subst gk gq
  exact ⟨k, q, a, b, c, d, e, A, m, cp, zs, rfl, hA, wk, wq, wa, wb, wc, wd, we⟩
end Go.Proofs.Ytpcdachkmekjgaa

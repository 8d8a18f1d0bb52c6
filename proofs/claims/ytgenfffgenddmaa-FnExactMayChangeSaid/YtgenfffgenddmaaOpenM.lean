/- An argument that is a list of modes, taken apart. -/
import Derived.Test.YtgenfffgenddmaaOpenF
import Derived.Test.YtgenfffgenddmaaMod
import Derived.Deep.Slices
namespace Go.Proofs.Ytgenfffgenddmaa
open Go.Joins Go.ChangeShapes Go.WideShapes Go.RowKit Go.Deep
set_option linter.unusedSimpArgs false
set_option linter.unusedVariables false
theorem list_of {α : Type} {P : Nat → α → Prop} : ∀ n : Nat, (∀ i, i < n → ∃ x, P i x) → ∃ L : List α, L.length = n ∧ ∀ (k : Nat) (e : α), L[k]? = some e → P k e
  | 0, _ => ⟨[], rfl, fun k e h => by simp at h⟩
  | n + 1, h => by
    obtain ⟨L, hl, hL⟩ := list_of n (fun i hi => h i (by omega))
    obtain ⟨x, hx⟩ := h n (by omega)
    refine ⟨L ++ [x], by simp [hl], fun k e he => ?_⟩
    by_cases hk : k < L.length
    · rw [List.getElem?_append_left hk] at he
      exact hL k e he
    · rw [List.getElem?_append_right (by omega)] at he
      obtain ⟨hk', rfl⟩ := List.getElem?_eq_some_iff.1 he
      simp at hk'
      have : k = n := by omega
      subst this
      simpa [hl] using hx
theorem open_argM {H : Type} {enc : TypeId × Value → H} {w : World} {base : Nat} {held : Bool} {fuel : Nat} {v : Value} {x : DataW H × List MemPlace}
    (h : DataW.trod enc Try.prog w base (fun _ => true) held fuel 32 [v] = some x) :
    ∃ A n c zs, v = .slice A n c ∧ ArgInts w A n c zs := by
  rcases open_ints Try.underlying32 Try.underlying2 (by kernel_rfl) h with ⟨hcs, _⟩ | ⟨x, l, c, zs, hcs, _, hl, hm, hz, _, hcell, hwz⟩
  · simp at hcs
    subst hcs
    exact ⟨_, _, _, [], rfl, argInts_nil _⟩
  · simp at hcs
    subst hcs
    exact ⟨_, _, _, zs.take _, rfl, argInts_mk hl hm (by simpa using hz) hcell hwz⟩
set_option maxRecDepth 20000 in
theorem open_modes {H : Type} {enc : TypeId × Value → H} {w : World} {base : Nat} {held : Bool} {r : Reach} {b0 : Nat} {v : Value} {d : DataW H} {p : List MemPlace}
    (hv : Value.okWide Try.prog w r b0 22 v) (h : DataW.Trod enc Try.prog w base (fun _ => true) held 22 v d p) :
    ∃ (A : Option Addr) (n c : Nat) (L : List Mp), v = .slice A n c ∧ ArgModes w A n c L := by
  obtain ⟨A, n, c, rfl⟩ := okWide_slice Try.underlying22 hv
  obtain ⟨fuel, h⟩ := h
  rcases open_slice Try.underlying22 h with ⟨hcs, _⟩ | ⟨a, len, cap, m, q, D, Pl, hcs, hb, hl, hm, hmm, hx, hi⟩
  · simp [Value.cells] at hcs
    obtain ⟨rfl, rfl, rfl⟩ := hcs
    exact ⟨_, _, _, [], rfl, rfl, Nat.le_refl _, by unfold maxLen; omega, fun h => by omega⟩
  · simp [Value.cells] at hcs
    obtain ⟨rfl, rfl, rfl⟩ := hcs
    have e3 : Try.prog.cellsOf 34 = 3 := by kernel_rfl
    have e1 : Try.prog.cellsOf 2 = 1 := by kernel_rfl
    have eS : Try.prog.cellsOf 32 = 1 := by kernel_rfl
    rw [e3] at hi
    simp at hmm
    obtain ⟨L, hL, hP⟩ := list_of (P := fun k (e : Mp) => a.block < w.heap.size ∧ mpCells w a k e.m e.A e.c ∧ ArgInts w e.A e.m.xs.length e.c e.m.xs) n (fun i hin => by
      obtain ⟨cs', hc, ht⟩ := hi i (by omega)
      obtain ⟨_, hcl, hat⟩ := World.cells?_some hc
      obtain ⟨n', hl', hf⟩ := trod_fields Try.underlying34 ht
      obtain ⟨x0, x1, x2, rfl⟩ := list3 hcl
      obtain ⟨y0, t0⟩ := hf 0 _ rfl
      obtain ⟨y1, t1⟩ := hf 1 _ rfl
      obtain ⟨y2, t2⟩ := hf 2 _ rfl
      simp [e1, eS] at t0 t1 t2
      obtain ⟨r, gr, _, _⟩ := DataW.trod_int Try.underlying2 t0
      obtain ⟨s, gs, _, _⟩ := DataW.trod_int Try.underlying2 t1
      obtain ⟨A', m', cp, zs, rfl, hA⟩ := open_argM t2
      simp at gr gs
      subst gr gs
      have c0 := hat 0 (by omega)
      have c1 := hat 1 (by omega)
      have c2 := hat 2 (by omega)
      have hz : zs.length = m' := hA.2.2.1
      subst hz
      refine ⟨⟨⟨r, s, zs⟩, A', cp⟩, ?_, ⟨?_, ?_, ?_⟩, hA⟩
      · have := cell_lt c0
        rwa [block_add, block_add] at this
      · simpa [add_add'] using c0
      · rw [add_add', add_off _ _ _ (by omega)] at c1; exact c1
      · rw [add_add', add_off _ _ _ (by omega)] at c2; exact c2)
    refine ⟨_, _, _, L, rfl, hL, hl, hm, fun h0 => ⟨a, rfl, ?_, fun k e he => (hP k e he).2⟩⟩
    exact (hP 0 _ (List.getElem?_eq_getElem (by omega))).1
end Go.Proofs.Ytgenfffgenddmaa

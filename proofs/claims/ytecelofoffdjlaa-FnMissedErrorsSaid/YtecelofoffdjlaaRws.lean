/- Rows that a region makes and uses up; a row of some numbers. -/
import Derived.Test.YtecelofoffdjlaaBase
import Derived.Test.YtecelofoffdjlaaFrmH
namespace Go.Proofs.Ytecelofoffdjlaa
open Go.RowKit
set_option linter.unusedSimpArgs false
set_option linter.unusedVariables false
/-- A slice of some whole numbers of the call's own. -/
def Row (base : Nat) (v : Value) (n : Nat) (W : World) : Prop := ∃ xs : List Int, xs.length = n ∧ IOwn W base v xs
/-- Which rows live, by an index: each is a row of the call's own, no two in one block. -/
structure RWs (base : Nat) (F : Nat → Option (Value × Nat)) (W : World) : Prop where
  own : ∀ i p, F i = some p → ∃ xs : List Int, xs.length = p.2 ∧ IOwn W base p.1 xs
  ne : ∀ i p, F i = some p → ∃ g, p.1.ownBlock = some g
  apart : ∀ i j p q, i ≠ j → F i = some p → F j = some q → p.1.ownBlock ≠ q.1.ownBlock
theorem own_some {w : World} {base : Nat} {v : Value} {xs : List Int} (h : IOwn w base v xs) (hx : 0 < xs.length) : ∃ g, v.ownBlock = some g := by
  obtain ⟨A, c, rfl, _, _, h⟩ := h.form
  rcases h with ⟨_, rfl, _⟩ | ⟨g, rfl, _⟩
  · simp at hx
  · exact ⟨g, rfl⟩
section
variable {W W' : World} {base i0 i1 n g : Nat} {F F' : Nat → Option (Value × Nat)} {v v' : Value} {xs : List Int}
theorem RWs.next (h : RWs base F W) (b : Below W.heap.size W W') : RWs base F W' :=
  ⟨fun i p hp => by
    obtain ⟨xs, hx, o⟩ := h.own i p hp
    exact ⟨xs, hx, o.below_ b⟩, h.ne, h.apart⟩
theorem RWs.upd (h : RWs base F W) (hF : ∀ j p, F' j = some p → F j = some p) : RWs base F' W :=
  ⟨fun i p hp => h.own i p (hF i p hp), fun i p hp => h.ne i p (hF i p hp), fun i j p q hij hp hq => h.apart i j p q hij (hF i p hp) (hF j q hq)⟩
theorem RWs.push (h : RWs base F W) (b : Below W.heap.size W W') (o : IOwn W' W.heap.size v xs) (hx : 0 < xs.length) (hb : base ≤ W.heap.size)
    (h1 : ∀ p, F' i0 = some p → p = (v, xs.length)) (h2 : ∀ j, j ≠ i0 → ∀ p, F' j = some p → F j = some p) : RWs base F' W' := by
  obtain ⟨g, hg⟩ := own_some o hx
  have hgb := (o.lt g hg).1
  have old : ∀ j, j ≠ i0 → ∀ p, F' j = some p → p.1.ownBlock ≠ v.ownBlock := fun j hj p hp e => by
    obtain ⟨ys, _, q⟩ := h.own j p (h2 j hj p hp)
    have := (q.lt g (e.trans hg)).2
    omega
  refine ⟨fun i p hp => ?_, fun i p hp => ?_, fun i j p q hij hp hq => ?_⟩
  · by_cases e : i = i0
    · subst e
      obtain rfl := h1 p hp
      exact ⟨xs, rfl, o.less hb⟩
    · exact (h.next b).own i p (h2 i e p hp)
  · by_cases e : i = i0
    · subst e
      obtain rfl := h1 p hp
      exact ⟨g, hg⟩
    · exact h.ne i p (h2 i e p hp)
  · by_cases e : i = i0
    · subst e
      obtain rfl := h1 p hp
      exact fun e => old j (fun e => hij e.symm) q hq e.symm
    · by_cases e' : j = i0
      · subst e'
        obtain rfl := h1 q hq
        exact old i hij p hp
      · exact h.apart i j p q hij (h2 i e p hp) (h2 j e' q hq)
theorem RWs.app (h : RWs base F W) (h0 : F i0 = some (v, n)) (gg : W.grownBy W' v.ownBlock) (o' : IOwn W' base v' xs) (hv : v'.ownBlock = v.ownBlock ∨ v'.ownBlock = some W.heap.size) (hx : 0 < xs.length)
    (h1 : ∀ p, F' i1 = some p → p = (v', xs.length)) (h2 : ∀ j, j ≠ i1 → ∀ p, F' j = some p → j ≠ i0 ∧ F j = some p) : RWs base F' W' := by
  obtain ⟨g, hg⟩ := own_some o' hx
  have far : ∀ j, j ≠ i1 → ∀ p, F' j = some p → p.1.ownBlock ≠ v.ownBlock := fun j hj p hp => h.apart j i0 p _ (h2 j hj p hp).1 (h2 j hj p hp).2 h0
  have old : ∀ j, j ≠ i1 → ∀ p, F' j = some p → p.1.ownBlock ≠ v'.ownBlock := fun j hj p hp e => by
    rcases hv with hv | hv
    · exact far j hj p hp (e.trans hv)
    · obtain ⟨ys, _, q⟩ := h.own j p (h2 j hj p hp).2
      have := (q.lt _ (e.trans hv)).2
      omega
  refine ⟨fun i p hp => ?_, fun i p hp => ?_, fun i j p q hij hp hq => ?_⟩
  · by_cases e : i = i1
    · subst e
      obtain rfl := h1 p hp
      exact ⟨xs, rfl, o'⟩
    · obtain ⟨ys, hy, q⟩ := h.own i p (h2 i e p hp).2
      exact ⟨ys, hy, q.kept gg (.inr (far i e p hp))⟩
  · by_cases e : i = i1
    · subst e
      obtain rfl := h1 p hp
      exact ⟨g, hg⟩
    · exact h.ne i p (h2 i e p hp).2
  · by_cases e : i = i1
    · subst e
      obtain rfl := h1 p hp
      exact fun e => old j (fun e => hij e.symm) q hq e.symm
    · by_cases e' : j = i1
      · subst e'
        obtain rfl := h1 q hq
        exact old i hij p hp
      · exact h.apart i j p q hij (h2 i e p hp).2 (h2 j e' q hq).2
theorem Row.next (h : Row base v n W) (b : Below W.heap.size W W') : Row base v n W' := by
  obtain ⟨xs, hx, o⟩ := h
  exact ⟨xs, hx, o.below_ b⟩
theorem Row.draw (h : Row base v n W) (hg : g < base) (gg : W.grownBy W' (some g)) : Row base v n W' := by
  obtain ⟨xs, hx, o⟩ := h
  exact ⟨xs, hx, o.kept gg (.inr (fun e => by have := (o.lt g e).1; omega))⟩
theorem Row.five (h : Row base v n W) {q : Nat} (hq : q < base) (a b c d e : Value) : Row base v n (((((W.setCell ⟨q, 0, none⟩ a).setCell ⟨q, 1, none⟩ b).setCell ⟨q, 2, none⟩ c).setCell ⟨q, 3, none⟩ d).setCell ⟨q, 4, none⟩ e) := by
  obtain ⟨xs, hx, o⟩ := h
  exact ⟨xs, hx, ((((o.setB hq a).setB hq b).setB hq c).setB hq d).setB hq e⟩
theorem Row.takeTo {A : Option Addr} {c : Nat} (h : Row base (.slice A n c) n W) (k : Nat) (hk : k ≤ n) : Row base (.slice A k c) k W := by
  obtain ⟨xs, hx, o⟩ := h
  refine ⟨xs.take k, by rw [List.length_take]; omega, ?_⟩
  have hl : (xs.take k).length = k := by rw [List.length_take]; omega
  unfold IOwn
  rw [hl]
  rcases o.2 with ⟨e, h0⟩ | ⟨g, cap, cur, e, hb, hh, hnc, hcm, hsz, htk⟩
  · injection e with e1 e2 e3
    subst e1 e3
    have : k = 0 := by omega
    subst this
    exact ⟨by simp, .inl ⟨rfl, rfl⟩⟩
  · injection e with e1 e2 e3
    subst e1 e3
    refine ⟨by rw [List.length_map, hl]; omega, .inr ⟨g, c, cur, rfl, hb, hh, by omega, hcm, hsz, ?_⟩⟩
    rw [List.map_take, ← htk, List.take_take]
    congr 1
    omega
end
end Go.Proofs.Ytecelofoffdjlaa

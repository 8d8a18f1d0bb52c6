/- What both readers of a node table return, in plain words. -/
import Derived.Test.YtgenfffgenddmaaDoorRd
import Derived.Test.YtgenfffgenddmaaDoorByt
namespace Go.Proofs.YtgenfffgenddmaaDoor
set_option linter.unusedSimpArgs false
set_option linter.unusedVariables false
def rdOut (xs : List Int) : Option (List Nd × Nat) := if xs.length = 0 then none else rd xs (xs.getD 0 0).toNat 1
def rdGo (xs : List Int) (q : Option (List Nd × Nat)) : Option (List Nd × Nat) :=
  match q with
  | some q => if (ntOk q.1 && eqL (encK q.1 q.1.length) (xs.take q.2)) = true then some q else none
  | none => none
def rdRes (xs : List Int) : Option (List Nd × Nat) := rdGo xs (rdOut xs)
def rdL (xs : List Int) : List Nd := ((rdRes xs).getD ([], 0)).1
def rdP (xs : List Int) : Nat := ((rdRes xs).getD ([], 0)).2
def rdB (xs : List Int) : Bool := (rdRes xs).isSome
theorem rd_no {xs : List Int} (h : rdRes xs = none) : rdL xs = [] ∧ rdP xs = 0 ∧ rdB xs = false := by simp [rdL, rdP, rdB, h]
theorem rd_yes {xs : List Int} {L : List Nd} {p : Nat} (h : rdRes xs = some (L, p)) : rdL xs = L ∧ rdP xs = p ∧ rdB xs = true := by simp [rdL, rdP, rdB, h]
theorem rdRes_out {xs : List Int} (h : rdOut xs = none) : rdRes xs = none := by simp [rdRes, rdGo, h]
theorem rdRes_bad {xs : List Int} {L : List Nd} {p : Nat} (h : rdOut xs = some (L, p)) (ho : ntOk L = false) : rdRes xs = none := by simp [rdRes, rdGo, h, ho]
theorem rdRes_if {xs : List Int} {L : List Nd} {p : Nat} (h : rdOut xs = some (L, p)) (ho : ntOk L = true) : rdRes xs = if eqL (encK L L.length) (xs.take p) = true then some (L, p) else none := by
  simp only [rdRes, rdGo, h, ho, Bool.true_and]
theorem rdOut_nil {xs : List Int} (h : xs.length = 0) : rdOut xs = none := by simp [rdOut, h]
theorem rdOut_of {xs : List Int} (h : 0 < xs.length) : rdOut xs = rdMore xs [] (xs.getD 0 0).toNat 1 := by
  rw [rdMore_start]
  unfold rdOut
  rw [if_neg (by omega)]
def nm255 (L : List Nd) : Prop := ∀ (k : Nat) (d : Nd), L[k]? = some d → d.nm.size ≤ 510
theorem nm255_app {L : List Nd} {d : Nd} (h : nm255 L) (hd : d.nm.size ≤ 510) : nm255 (L ++ [d]) := by
  intro k e he
  rcases Nat.lt_or_ge k L.length with hk | hk
  · rw [List.getElem?_append_left hk] at he
    exact h k e he
  · rw [List.getElem?_append_right hk] at he
    rcases Nat.eq_zero_or_pos (k - L.length) with h0 | h0
    · rw [h0] at he; simp at he; subst he; exact hd
    · rw [List.getElem?_eq_none (by simp; omega)] at he; cases he
end Go.Proofs.YtgenfffgenddmaaDoor

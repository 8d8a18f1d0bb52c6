/- A region that draws its order, walked operation by operation under one invariant: each operation is met once, whatever stands listed. -/
import Derived.Orders
import Derived.RegionTactic
namespace Go.Proofs.YtgenfffgenddmaaDoor
open Go
set_option linter.unusedSimpArgs false
set_option linter.unusedVariables false
section
variable {P : Program} {ops : Array Oper} {Q : Exit → Act → World → Prop}
theorem count_set : ∀ (l : List Bool) (i : Nat), l.getD i true = false → (l.set i true).count false + 1 = l.count false
  | [], i, h => by simp at h
  | b :: l, 0, h => by
    simp at h; subst h
    simp [List.count_cons]
  | b :: l, i + 1, h => by
    have := count_set l i (by simpa using h)
    simp only [List.set_cons_succ, List.count_cons]
    omega
theorem wpAny_inv (hlow : ∀ (i : Nat) (o : Oper), ops[i]? = some o → ∀ e ∈ o.after, Region.binds .any e = true → e.on < i) (Inv : (Nat → Bool) → Act → World → Prop)
    (step : ∀ (l : Nat → Bool) (i : Nat) (o : Oper), ops[i]? = some o → l i = false → (∀ e ∈ o.after, Region.binds .any e = true → l e.on = true) → ∀ a w, Inv l a w → ∀ K : Act → World → Prop, (∀ a w, Inv (fun j => if j = i then true else l j) a w → K a w) →
      if Region.wanted o (yielded ops a.tmps) = true then Oper.wp P o a w K Q else K (a.put o.dst undef) w)
    (fin : ∀ l a w, (∀ i, i < ops.size → l i = true) → Inv l a w → Q .normal a w) :
    ∀ (fuel : Nat) (listed : Array Bool) (a : Act) (w : World), listed.size = ops.size → listed.toList.count false ≤ fuel → Inv (fun j => listed.getD j false) a w → wpAny P .any ops Q fuel listed a w := by
  have hall : ∀ listed : Array Bool, listed.size = ops.size → Region.ready .any ops listed = [] → ∀ i, i < ops.size → listed.getD i false = true := by
    intro listed hs hr i
    induction i using Nat.strongRecOn with
    | ind i ih =>
      intro hi
      cases hv : listed.getD i false
      · exfalso
        have hm : i ∈ Region.ready .any ops listed := mem_ready.2 ⟨by
          rw [Array.getD_eq_getD_getElem?, Array.getElem?_eq_getElem (by omega)] at hv ⊢; exact hv, ops[i], Array.getElem?_eq_getElem hi, fun e he hbi => by
          have := hlow i _ (Array.getElem?_eq_getElem hi) e he hbi
          exact ih _ this (by omega)⟩
        rw [hr] at hm; cases hm
      · rfl
  intro fuel
  induction fuel with
  | zero =>
    intro listed a w hs hc hI
    have hr : Region.ready .any ops listed = [] := by
      cases h : Region.ready .any ops listed with
      | nil => rfl
      | cons i is =>
        exfalso
        have hm : i ∈ Region.ready .any ops listed := by rw [h]; simp
        have h0 := (mem_ready.1 hm).1
        have : false ∈ listed.toList := by
          rw [Array.getD_eq_getD_getElem?] at h0
          cases hg : listed[i]? with
          | none => rw [hg] at h0; simp at h0
          | some b => rw [hg] at h0; simp at h0; subst h0; exact Array.mem_toList_iff.2 (Array.mem_of_getElem? hg)
        have := List.count_pos_iff.2 this
        omega
    exact ⟨hr, fin _ a w (hall listed hs hr) hI⟩
  | succ fuel ih =>
    intro listed a w hs hc hI
    refine ⟨fun hr => fin _ a w (hall listed hs hr) hI, fun i hi => ?_⟩
    obtain ⟨h0, o, ho, he⟩ := mem_ready.1 hi
    have hlt : i < listed.size := by rw [hs]; exact (Array.getElem?_eq_some_iff.1 ho).1
    have h0' : listed.getD i false = false := by
      rw [Array.getD_eq_getD_getElem?, Array.getElem?_eq_getElem hlt] at h0 ⊢; exact h0
    refine wpOp_mono (fun a w hw => ih _ a w (by simpa using hs) ?_ ?_) (wpOp_step ho (step _ i o ho h0' he a w hI))
    · have := count_set listed.toList i (by
        rw [Array.getD_eq_getD_getElem?] at h0
        rw [List.getD_eq_getElem?_getD]; simpa using h0)
      rw [Array.toList_setIfInBounds]
      omega
    · refine (show (fun j => (listed.setIfInBounds i true).getD j false) = (fun j => if j = i then true else listed.getD j false) from funext fun j => ?_) ▸ hw
      by_cases hj : j = i
      · subst hj
        rw [Array.getD_eq_getD_getElem?]
        simp [hlt]
      · rw [if_neg hj, getD_set_ne false (fun e => hj e.symm)]
def lowB (ops : Array Oper) : Bool := (List.range ops.size).all fun i => match ops[i]? with | some o => o.after.all fun e => !Region.binds .any e || decide (e.on < i) | none => true
theorem low_of (h : lowB ops = true) : ∀ (i : Nat) (o : Oper), ops[i]? = some o → ∀ e ∈ o.after, Region.binds .any e = true → e.on < i := by
  intro i o ho e he hbi
  have hi := (Array.getElem?_eq_some_iff.1 ho).1
  have := (List.all_eq_true.1 h) i (List.mem_range.2 hi)
  rw [ho] at this
  simp only [Array.all_eq_true_iff_forall_mem] at this
  have h2 := this e he
  rw [hbi] at h2
  simpa using h2
theorem wp_region_inv {id : Nat} {a : Act} {w : World} (hm : P.follows .mixedOrders = true) (hlow : ∀ (i : Nat) (o : Oper), ops[i]? = some o → ∀ e ∈ o.after, Region.binds .any e = true → e.on < i) (Inv : (Nat → Bool) → Act → World → Prop)
    (h0 : Inv (fun _ => false) a w.drew)
    (step : ∀ (l : Nat → Bool) (i : Nat) (o : Oper), ops[i]? = some o → l i = false → (∀ e ∈ o.after, Region.binds .any e = true → l e.on = true) → ∀ a w, Inv l a w → ∀ K : Act → World → Prop, (∀ a w, Inv (fun j => if j = i then true else l j) a w → K a w) →
      if Region.wanted o (yielded ops a.tmps) = true then Oper.wp P o a w K Q else K (a.put o.dst undef) w)
    (fin : ∀ l a w, (∀ i, i < ops.size → l i = true) → Inv l a w → Q .normal a w) : (Code.region id ops true).wp P Q a w :=
  wp_region_any hm (wpAny_inv hlow Inv step fin ops.size _ a _ (by simp) (by simp) (by
    refine (show (fun j => (Array.replicate ops.size false).getD j false) = (fun _ => false) from funext fun j => ?_) ▸ h0
    rw [Array.getD_eq_getD_getElem?, Array.getElem?_replicate]
    split <;> rfl))
end
end Go.Proofs.YtgenfffgenddmaaDoor

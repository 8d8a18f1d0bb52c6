/- A drawn node table, good or not; the draws of FindNode's and WorstDrift's arguments. -/
import Derived.Test.YtgenfffgenddmaaDoorDn2
namespace Go.Proofs.YtgenfffgenddmaaDoor
open Go.RowKit
set_option linter.unusedSimpArgs false
set_option linter.unusedVariables false
theorem nodeVals_set {L : List Nd} {i j : Nat} {d d' : Nd} {u : Value} (hd : L[i]? = some d) (hj : j < 4) (hc : d'.cells.toList = d.cells.toList.set j u) : nodeVals (L.set i d') = (nodeVals L).set (i * 4 + j) u := by
  apply List.ext_getElem?
  intro m
  have hi := (List.getElem?_eq_some_iff.1 hd).1
  have hl := nodeVals_len L
  have hl' := nodeVals_len (L.set i d')
  rw [List.length_set] at hl'
  by_cases hm : m < L.length * 4
  · have e : m / 4 * 4 + m % 4 = m := by omega
    by_cases hq : m / 4 = i
    · have h2 := nodeVals_get (L.set i d') (m / 4) (m % 4) d' (by rw [hq, List.getElem?_set_self hi]) (by omega)
      rw [e, hc] at h2
      rw [h2]
      by_cases ht : m % 4 = j
      · have em : m = i * 4 + j := by omega
        rw [em, List.getElem?_set_self (by omega), ← em, ht, List.getElem?_set_self (by simp [Nd.cells]; omega)]
      · rw [List.getElem?_set_ne (by omega), List.getElem?_set_ne (by omega)]
        have h1 := nodeVals_get L (m / 4) (m % 4) d (by rw [hq]; exact hd) (by omega)
        rw [e] at h1
        exact h1.symm
    · have hdm : L[m / 4]? = some (L[m / 4]'(by omega)) := List.getElem?_eq_getElem (by omega)
      have h2 := nodeVals_get (L.set i d') (m / 4) (m % 4) _ (by rw [List.getElem?_set_ne (by omega)]; exact hdm) (by omega)
      have h1 := nodeVals_get L (m / 4) (m % 4) _ hdm (by omega)
      rw [e] at h1 h2
      rw [h2, List.getElem?_set_ne (by omega), h1]
  · rw [List.getElem?_eq_none (by omega), List.getElem?_eq_none (by rw [List.length_set]; omega)]
theorem NS.store {w W : World} {B g b c : Nat} {L : List Nd} {i j : Nat} {d d' : Nd} {u : Value} (h : NS w B g W (.slice (some ⟨b, 0, none⟩) L.length c) L) (hl : g < w.heap.size) (hd : L[i]? = some d) (hj : j < 4) (hc : d'.cells.toList = d.cells.toList.set j u) :
    NS w B g (W.setCell ⟨b, i * 4 + j, none⟩ u) (.slice (some ⟨b, 0, none⟩) L.length c) (L.set i d') := by
  refine h.put hl (grown_set (World.grownBy.refl _ _) (.inl rfl) u) ?_
  unfold NOwn
  rw [List.length_set, nodeVals_set hd hj hc]
  exact (World.ownsRow.stored h.o (i * 4 + j) u).1
theorem nmSm_set {L : List Nd} {i : Nat} {d : Nd} (h : nmSm L) (hd : d.nm.size ≤ 30) : nmSm (L.set i d) := by
  intro e he
  rcases List.mem_or_eq_of_mem_set he with h1 | rfl
  · exact h e h1
  · exact hd
theorem row3 {w : World} {b : Nat} {a0 a1 a2 : Value} {t : TypeId} (h : w.heap[b]? = some (.cells #[a0, a1, a2] t (0, 0))) : w.cell? ⟨b, 0, none⟩ = some a0 ∧ w.cell? ⟨b, 1, none⟩ = some a1 ∧ w.cell? ⟨b, 2, none⟩ = some a2 := by
  simp [World.cell?, h]
theorem row5 {w : World} {b : Nat} {a0 a1 a2 a3 a4 : Value} {t : TypeId} (h : w.heap[b]? = some (.cells #[a0, a1, a2, a3, a4] t (0, 0))) : w.cell? ⟨b, 0, none⟩ = some a0 ∧ w.cell? ⟨b, 1, none⟩ = some a1 ∧ w.cell? ⟨b, 2, none⟩ = some a2 ∧ w.cell? ⟨b, 3, none⟩ = some a3 ∧ w.cell? ⟨b, 4, none⟩ = some a4 := by
  simp [World.cell?, h]
/-- What the walk asks of element i. -/
theorem own_at {W : World} {base b c i : Nat} {L : List Nd} {d : Nd} (h : NOwn W base (.slice (some ⟨b, 0, none⟩) L.length c) L) (hd : L[i]? = some d) :
    (W.cell? ⟨b, i * 4, none⟩ = some (.int .i64 d.id) ∧ W.cell? ⟨b, i * 4 + 1, none⟩ = some (.string d.nm) ∧ W.cell? ⟨b, i * 4 + 2, none⟩ = some (.int .i64 d.dr) ∧ W.cell? ⟨b, i * 4 + 3, none⟩ = some (.bool d.pv)) ∧
    (W.frozen? ⟨b, i * 4, none⟩ = false ∧ W.frozen? ⟨b, i * 4 + 1, none⟩ = false ∧ W.frozen? ⟨b, i * 4 + 2, none⟩ = false) := by
  have hi := (List.getElem?_eq_some_iff.1 hd).1
  have hl := nodeVals_len L
  have e0 := nodeVals_get L i 0 d hd (by omega)
  have e1 := nodeVals_get L i 1 d hd (by omega)
  have e2 := nodeVals_get L i 2 d hd (by omega)
  have e3 := nodeVals_get L i 3 d hd (by omega)
  unfold NOwn at h
  exact ⟨⟨(World.ownsRow.cellAt h (i * 4) (by omega)).trans e0, (World.ownsRow.cellAt h (i * 4 + 1) (by omega)).trans e1, (World.ownsRow.cellAt h (i * 4 + 2) (by omega)).trans e2, (World.ownsRow.cellAt h (i * 4 + 3) (by omega)).trans e3⟩,
    World.ownsRow.frozenAt h (i * 4), World.ownsRow.frozenAt h (i * 4 + 1), World.ownsRow.frozenAt h (i * 4 + 2)⟩
set_option maxHeartbeats 8000000 in
set_option maxRecDepth 100000 in
theorem s_l10DrawAny (g B : Nat) (w : World) (h : Src w B g) :
    Calls Tryd.prog 65 #[.pointer (some ⟨g, 0, none⟩)] w (DrewT B g w 0) := by
  have hl := h.lt
  go_enter Tryd.func65, Tryd.ntmps65
  go_wp2_with fail
  refine (s_l10Draw g B _ h).mono ?_
  rintro e w1 ⟨v, L, rfl, N1, l1, l2, hnm⟩
  obtain ⟨A, c, rfl, hnc, hcm, hA⟩ := N1.o.form
  obtain ⟨b, rfl, hb0, hb1⟩ : ∃ b, A = some ⟨b, 0, none⟩ ∧ w.heap.size ≤ b ∧ b < w1.heap.size := by
    rcases hA with ⟨_, rfl, _⟩ | ⟨b, e, hb, hlt⟩
    · simp at l1
    · exact ⟨b, e, hb, hlt⟩
  clear hA h
  have HNM := Lib.hid hnm
  clear hnm
  go_wp2_with fail
  refine (s_l01Next g B L.length _ N1.s).mono ?_
  rintro e w2 ⟨r, rfl, r0, r1, S2, g2⟩
  have N2 := N1.next hl S2 g2
  clear N1 S2 g2
  obtain ⟨i, rfl⟩ := nat_of' r r0
  have hi : i < L.length := by omega
  obtain ⟨d, hd⟩ : ∃ d, L[i]? = some d := ⟨_, List.getElem?_eq_getElem hi⟩
  have hdm := HNM.out d (List.mem_of_getElem? hd)
  have HD := Lib.hid hd
  clear hd
  go_wp2_with fail
  refine (s_l01Next g B 24 _ N2.s).mono ?_
  rintro e w3 ⟨q, rfl, q0, q1, S3, g3⟩
  have N3 := N2.next hl S3 g3
  have z3 := N3.size
  have hlt3 := N3.s.lt
  have i0 : (0 : Int) ≤ (i : Int) := by omega
  have i1 : (i : Int) < (L.length : Int) := by omega
  clear N2 S3 g3 r0 r1
  rcases (by omega : q = 0 ∨ q = 1 ∨ q = 2 ∨ q = 3 ∨ q = 4 ∨ 4 < q) with rfl | rfl | rfl | rfl | rfl | hq
  · go_wp2_with fail
    refine (s_l01Next g B 3 _ (N3.alloc _).s).mono ?_
    rintro e w4 ⟨r4, rfl, r4a, r4b, S4, g4⟩
    have N4 := (N3.alloc _).next hl S4 g4
    obtain ⟨t0, t1, t2⟩ := row3 (znew g4 hlt3)
    obtain ⟨⟨c0, c1, c2, c3⟩, f0, f1, f2⟩ := own_at N4.o HD.out
    have NN := Lib.hid (fun x => N4.store hl HD.out (j := 0) (d' := { d with id := x }) (u := .int .i64 x) (by omega) rfl)
    clear N3 N4 S4 g4
    rcases (by omega : r4 = 0 ∨ r4 = 1 ∨ r4 = 2) with rfl | rfl | rfl
    all_goals
      go_wp2
      go_ret
      exact ⟨_, _, rfl, NN.out _, by omega, by rw [List.length_set]; omega, nmSm_set HNM.out hdm⟩
  · go_wp2_with fail
    refine (s_l01Next g B 5 _ (N3.alloc _).s).mono ?_
    rintro e w4 ⟨r4, rfl, r4a, r4b, S4, g4⟩
    have N4 := (N3.alloc _).next hl S4 g4
    obtain ⟨t0, t1, t2, t3, t4⟩ := row5 (znew g4 hlt3)
    obtain ⟨⟨c0, c1, c2, c3⟩, f0, f1, f2⟩ := own_at N4.o HD.out
    have NN := Lib.hid (fun x => N4.store hl HD.out (j := 1) (d' := { d with nm := x }) (u := .string x) (by omega) rfl)
    clear N3 N4 S4 g4
    rcases (by omega : r4 = 0 ∨ r4 = 1 ∨ r4 = 2 ∨ r4 = 3 ∨ r4 = 4) with rfl | rfl | rfl | rfl | rfl
    all_goals
      go_wp2
      go_ret
      exact ⟨_, _, rfl, NN.out _, by omega, by rw [List.length_set]; omega, nmSm_set HNM.out (Nat.le_of_ble_eq_true rfl)⟩
  · go_wp2_with fail
    refine (s_l01Next g B 3 _ (N3.alloc _).s).mono ?_
    rintro e w4 ⟨r4, rfl, r4a, r4b, S4, g4⟩
    have N4 := (N3.alloc _).next hl S4 g4
    obtain ⟨t0, t1, t2⟩ := row3 (znew g4 hlt3)
    obtain ⟨⟨c0, c1, c2, c3⟩, f0, f1, f2⟩ := own_at N4.o HD.out
    have NN := Lib.hid (fun x => N4.store hl HD.out (j := 2) (d' := { d with dr := x }) (u := .int .i64 x) (by omega) rfl)
    clear N3 N4 S4 g4
    rcases (by omega : r4 = 0 ∨ r4 = 1 ∨ r4 = 2) with rfl | rfl | rfl
    all_goals
      go_wp2
      go_ret
      exact ⟨_, _, rfl, NN.out _, by omega, by rw [List.length_set]; omega, nmSm_set HNM.out hdm⟩
  · obtain ⟨⟨c0, c1, c2, c3⟩, f0, f1, f2⟩ := own_at N3.o HD.out
    have N4 := N3.alloc (.cells d.cells 36)
    have hdc : d.cells = #[.int .i64 d.id, .string d.nm, .int .i64 d.dr, .bool d.pv] := rfl
    go_wp2_with (at_builtin; refine wpList_appN _ rfl _ _ rfl w.heap.size _ L rfl N4.o _ _ d rfl (heap_alloc_new _ _) (by omega) (by rw [World.size_alloc]; omega) ?_; intro v6 w6 O6 g6)
    have N6 := N4.put hl g6 O6
    go_wp2
    go_ret
    exact ⟨_, _, rfl, N6, by omega, by rw [List.length_append]; simp; omega, fun e he => by
      rcases List.mem_append.1 he with he | he
      · exact HNM.out e he
      · have : e = d := by simpa using he
        subst this; exact hdm⟩
  · go_wp2
    go_ret
    exact ⟨_, [], rfl, ⟨N3.s, ⟨rfl, .inl ⟨rfl, rfl⟩⟩, N3.gr⟩, by omega, by simp, by intro e he; cases he⟩
  · have k0 : (q == 0) = false := by simp; omega
    have k1 : (q == 1) = false := by simp; omega
    have k2 : (q == 2) = false := by simp; omega
    have k3 : (q == 3) = false := by simp; omega
    have k4 : (q == 4) = false := by simp; omega
    go_wp2
    go_ret
    exact ⟨_, L, rfl, N3, by omega, by omega, HNM.out⟩
end Go.Proofs.YtgenfffgenddmaaDoor

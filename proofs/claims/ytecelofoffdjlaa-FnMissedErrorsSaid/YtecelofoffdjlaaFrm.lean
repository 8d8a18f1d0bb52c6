/- Contracts of IsState and IsFrame, of the program and of the reference, over the same plain functions. -/
import Derived.Test.YtecelofoffdjlaaByt
import Derived.Test.YtecelofoffdjlaaDesc
import Derived.Test.YtecelofoffdjlaaNum
namespace Go.Proofs.Ytecelofoffdjlaa
open Go.RowKit
set_option linter.unusedSimpArgs false
set_option linter.unusedVariables false
def stOk (t m r s v : Int) : Bool := decide (0 ≤ t ∧ t ≤ 65535 ∧ 0 ≤ m ∧ m ≤ 15 ∧ 0 ≤ r ∧ r ≤ 15 ∧ 0 ≤ s ∧ s ≤ 255 ∧ 0 ≤ v ∧ v ≤ 4294967295)
theorem stOk_bd {t m r s v : Int} (h : stOk t m r s v = true) : 0 ≤ t ∧ t ≤ 65535 ∧ 0 ≤ m ∧ m ≤ 15 ∧ 0 ≤ r ∧ r ≤ 15 ∧ 0 ≤ s ∧ s ≤ 255 ∧ 0 ≤ v ∧ v ≤ 4294967295 := by simpa [stOk] using h
theorem st_ways (t m r s v : Int) :
    ((t < 0 ∨ 65535 < t) ∧ stOk t m r s v = false) ∨
    ((0 ≤ t ∧ t ≤ 65535) ∧ (m < 0 ∨ 15 < m) ∧ stOk t m r s v = false) ∨
    ((0 ≤ t ∧ t ≤ 65535) ∧ (0 ≤ m ∧ m ≤ 15) ∧ (r < 0 ∨ 15 < r) ∧ stOk t m r s v = false) ∨
    ((0 ≤ t ∧ t ≤ 65535) ∧ (0 ≤ m ∧ m ≤ 15) ∧ (0 ≤ r ∧ r ≤ 15) ∧ (s < 0 ∨ 255 < s) ∧ stOk t m r s v = false) ∨
    ((0 ≤ t ∧ t ≤ 65535) ∧ (0 ≤ m ∧ m ≤ 15) ∧ (0 ≤ r ∧ r ≤ 15) ∧ (0 ≤ s ∧ s ≤ 255) ∧ (v < 0 ∨ 4294967295 < v) ∧ stOk t m r s v = false) ∨
    ((0 ≤ t ∧ t ≤ 65535) ∧ (0 ≤ m ∧ m ≤ 15) ∧ (0 ≤ r ∧ r ≤ 15) ∧ (0 ≤ s ∧ s ≤ 255) ∧ (0 ≤ v ∧ v ≤ 4294967295) ∧ stOk t m r s v = true) := by
  simp only [stOk, decide_eq_true_eq, decide_eq_false_iff_not]
  omega
theorem i_IsState (t m r s v : Int) (w : World) :
    Calls Try.prog 86 #[.agg #[.int .i64 t, .int .i64 m, .int .i64 r, .int .i64 s, .int .i64 v]] w fun e w' => e = .returned (.bool (stOk t m r s v)) ∧ Below w.heap.size w w' := by
  rcases st_ways t m r s v with ⟨h1, hs⟩ | ⟨h1, h2, hs⟩ | ⟨h1, h2, h3, hs⟩ | ⟨h1, h2, h3, h4, hs⟩ | ⟨h1, h2, h3, h4, h5, hs⟩ | ⟨h1, h2, h3, h4, h5, hs⟩
  all_goals
    rw [hs]; clear hs
    go_enter Try.func86, Try.ntmps86
    go_wp2_with (first | (go_at_call 84; first | (refine (i_within_yes _ _ _ _ ?_ ?_).mono ?_; omega; omega; rintro e w' ⟨rfl, rfl⟩) | (refine (i_within_no _ _ _ _ ?_).mono ?_; omega; rintro e w' ⟨rfl, rfl⟩)) | go_in)
    go_ret
    exact ⟨rfl, (Below.refl _ _).alloc (Nat.le_refl _) _⟩
theorem s_IsState (t m r s v : Int) (w : World) :
    Calls Try.prog 82 #[.agg #[.int .i64 t, .int .i64 m, .int .i64 r, .int .i64 s, .int .i64 v]] w fun e w' => e = .returned (.bool (stOk t m r s v)) ∧ Below w.heap.size w w' := by
  rcases st_ways t m r s v with ⟨h1, hs⟩ | ⟨h1, h2, hs⟩ | ⟨h1, h2, h3, hs⟩ | ⟨h1, h2, h3, h4, hs⟩ | ⟨h1, h2, h3, h4, h5, hs⟩ | ⟨h1, h2, h3, h4, h5, hs⟩
  all_goals
    rw [hs]; clear hs
    go_enter Try.func82, Try.ntmps82
    go_wp2_with (first | (go_at_call 79; first | (refine (s_l01In_yes _ _ _ _ ?_ ?_).mono ?_; omega; omega; rintro e w' ⟨rfl, rfl⟩) | (refine (s_l01In_no _ _ _ _ ?_).mono ?_; omega; rintro e w' ⟨rfl, rfl⟩)) | go_in)
    go_ret
    exact ⟨rfl, (Below.refl _ _).alloc (Nat.le_refl _) _⟩
/-- How many bits of the first n are set. -/
def pc (a n : Nat) : Nat := ((List.range n).filter fun j => a.testBit j).length
theorem pc_succ (a n : Nat) : pc a (n + 1) = (if a % 2 = 1 then 1 else 0) + pc (a / 2) n := by
  unfold pc
  rw [List.range_succ_eq_map, List.filter_cons, List.filter_map, Nat.testBit_zero]
  have e : (List.filter ((fun j => a.testBit j) ∘ Nat.succ) (List.range n)) = List.filter (fun j => (a / 2).testBit j) (List.range n) := by
    congr 1; funext j; simp [Nat.testBit_succ]
  rw [e]
  by_cases h : a % 2 = 1
  · simp [h]; omega
  · simp [h]
theorem and_two (a b : Nat) : a &&& b = 2 * (a / 2 &&& b / 2) + (a % 2) * (b % 2) := by
  have h1 : (a &&& b) / 2 = a / 2 &&& b / 2 := Nat.and_div_two
  have h2 : (a &&& b) % 2 = (a % 2) * (b % 2) := by
    have ha : a % 2 = 0 ∨ a % 2 = 1 := by omega
    have hb : b % 2 = 0 ∨ b % 2 = 1 := by omega
    have hc : (a &&& b) % 2 = 0 ∨ (a &&& b) % 2 = 1 := by omega
    have h3 := Nat.testBit_and a b 0
    rw [Nat.testBit_zero, Nat.testBit_zero, Nat.testBit_zero] at h3
    rcases ha with ha | ha <;> rcases hb with hb | hb <;> rcases hc with hc | hc <;> rw [ha, hb, hc] at h3 <;> rw [ha, hb, hc] <;> first | rfl | (exact absurd h3 (by decide))
  rw [← h1, ← h2]; omega
theorem pc_one : ∀ (n a : Nat), a < 2 ^ n → (pc a n = 0 ↔ a = 0) ∧ (a ≠ 0 → (pc a n = 1 ↔ a &&& (a - 1) = 0))
  | 0, a, h => by
    have : a = 0 := by simpa using h
    subst this; simp [pc]
  | n + 1, a, h => by
    have hb : a / 2 < 2 ^ n := by rw [Nat.pow_succ] at h; omega
    obtain ⟨i0, i1⟩ := pc_one n (a / 2) hb
    rw [pc_succ]
    refine ⟨?_, fun hne => ?_⟩
    · by_cases hp : a % 2 = 1
      · simp [hp]; omega
      · simp [hp, i0]; omega
    · rw [and_two a (a - 1)]
      by_cases hp : a % 2 = 1
      · have e1 : (a - 1) / 2 = a / 2 := by omega
        have e2 : (a - 1) % 2 = 0 := by omega
        rw [e1, e2, Nat.and_self]
        simp [hp]
        omega
      · have e1 : (a - 1) / 2 = a / 2 - 1 := by omega
        have e2 : a % 2 = 0 := by omega
        have h9 := i1 (by omega)
        have e3 : ∀ x y : Nat, 2 * x + 0 * y = 0 ↔ x = 0 := by intro x y; rw [Nat.zero_mul]; omega
        rw [e1, e2, e3, ← h9, if_neg (by omega), Nat.zero_add]
/-- A vector with one member. -/
def oneB (v : Int) : Bool := decide ((membersL v).length = 1)
theorem memList_pc (a n : Nat) (ha : a < 4294967296) : (memList (a : Int) n).length = pc a n := by
  unfold memList pc
  rw [List.length_map]
  congr 1
  apply List.filter_congr
  intro j _
  exact hasB_nat a j (by omega)
theorem oneB_and (v : Int) (h0 : 0 ≤ v) (h1 : v ≤ 4294967295) (hne : v ≠ 0) : oneB v = (bits .and .i64 v (IntKind.i64.wrap (v - 1)) == 0) := by
  obtain ⟨a, rfl⟩ := Int.eq_ofNat_of_zero_le h0
  have e : IntKind.i64.wrap ((a : Int) - 1) = ((a - 1 : Nat) : Int) := by
    rw [IntWalk.i64_in _ (by omega)]; omega
  rw [e, and_nat _ _ (by omega) (by omega)]
  have hv : vecB (a : Int) = true := by simp [vecB]; omega
  have hp := (pc_one 32 a (by omega)).2 (by omega)
  unfold oneB membersL
  rw [hv, if_pos rfl, memList_pc a 32 (by omega), Bool.eq_iff_iff]
  simp only [decide_eq_true_eq, beq_iff_eq]
  rw [hp]
  omega
theorem oneB_zero : oneB 0 = false := by decide
def frOk (k q t m r s v : Int) (xs : List Int) : Bool := decide (0 ≤ k ∧ k ≤ 3) && decide (0 ≤ q ∧ q ≤ 7) && sizeOk k xs.length && bytesOk xs &&
  (if k = 0 then decide (t = 0 ∧ m = 0 ∧ r = 0 ∧ s = 0 ∧ v = 0) else if k = 3 then stOk t m r s v && decide (m = 0) && oneB v && decide (q = 0) else stOk t m r s v)
theorem fr_ways (k q t m r s v : Int) (xs : List Int) :
    ((k < 0 ∨ 3 < k) ∧ frOk k q t m r s v xs = false) ∨
    ((0 ≤ k ∧ k ≤ 3) ∧ (q < 0 ∨ 7 < q) ∧ frOk k q t m r s v xs = false) ∨
    ((0 ≤ k ∧ k ≤ 3) ∧ (0 ≤ q ∧ q ≤ 7) ∧ sizeOk k xs.length = false ∧ frOk k q t m r s v xs = false) ∨
    ((0 ≤ k ∧ k ≤ 3) ∧ (0 ≤ q ∧ q ≤ 7) ∧ sizeOk k xs.length = true ∧ bytesOk xs = false ∧ frOk k q t m r s v xs = false) ∨
    (k = 0 ∧ (0 ≤ q ∧ q ≤ 7) ∧ sizeOk k xs.length = true ∧ bytesOk xs = true ∧ frOk k q t m r s v xs = decide (t = 0 ∧ m = 0 ∧ r = 0 ∧ s = 0 ∧ v = 0)) ∨
    (k = 3 ∧ (0 ≤ q ∧ q ≤ 7) ∧ sizeOk k xs.length = true ∧ bytesOk xs = true ∧ frOk k q t m r s v xs = (stOk t m r s v && decide (m = 0) && oneB v && decide (q = 0))) ∨
    ((0 ≤ k ∧ k ≤ 3) ∧ (k == 0) = false ∧ (k == 3) = false ∧ (0 ≤ q ∧ q ≤ 7) ∧ sizeOk k xs.length = true ∧ bytesOk xs = true ∧ frOk k q t m r s v xs = stOk t m r s v) := by
  unfold frOk
  by_cases hk : 0 ≤ k ∧ k ≤ 3
  · by_cases hq : 0 ≤ q ∧ q ≤ 7
    · cases hs : sizeOk k xs.length
      · exact .inr (.inr (.inl ⟨hk, hq, rfl, by simp⟩))
      · cases hb : bytesOk xs
        · exact .inr (.inr (.inr (.inl ⟨hk, hq, rfl, rfl, by simp⟩)))
        · simp only [decide_eq_true hk, decide_eq_true hq, Bool.and_self, Bool.true_and]
          by_cases h0 : k = 0
          · exact .inr (.inr (.inr (.inr (.inl ⟨h0, hq, by simp, by simp, by rw [if_pos h0]⟩))))
          · by_cases h3 : k = 3
            · exact .inr (.inr (.inr (.inr (.inr (.inl ⟨h3, hq, by simp, by simp, by rw [if_neg h0, if_pos h3]⟩)))))
            · exact .inr (.inr (.inr (.inr (.inr (.inr ⟨hk, by simpa using h0, by simpa using h3, hq, by simp, by simp, by rw [if_neg h0, if_neg h3]⟩)))))
    · exact .inr (.inl ⟨hk, by omega, by rw [decide_eq_false hq]; simp⟩)
  · exact .inl ⟨by omega, by rw [decide_eq_false hk]; simp⟩
theorem zero_ways (t m r s v : Int) :
    (t = 0 ∧ m = 0 ∧ r = 0 ∧ s = 0 ∧ v = 0) ∨ ((t == 0) = false ∧ decide (t = 0 ∧ m = 0 ∧ r = 0 ∧ s = 0 ∧ v = 0) = false) ∨ (t = 0 ∧ (m == 0) = false ∧ decide (t = 0 ∧ m = 0 ∧ r = 0 ∧ s = 0 ∧ v = 0) = false) ∨
    (t = 0 ∧ m = 0 ∧ (r == 0) = false ∧ decide (t = 0 ∧ m = 0 ∧ r = 0 ∧ s = 0 ∧ v = 0) = false) ∨ (t = 0 ∧ m = 0 ∧ r = 0 ∧ (s == 0) = false ∧ decide (t = 0 ∧ m = 0 ∧ r = 0 ∧ s = 0 ∧ v = 0) = false) ∨
    (t = 0 ∧ m = 0 ∧ r = 0 ∧ s = 0 ∧ (v == 0) = false ∧ decide (t = 0 ∧ m = 0 ∧ r = 0 ∧ s = 0 ∧ v = 0) = false) := by
  simp only [decide_eq_false_iff_not, beq_eq_false_iff_ne, ne_eq]
  omega
theorem fr_cells {w : World} {g : Nat} {a0 a1 a2 a3 a4 a5 a6 a7 : Value} {t : TypeId} (h : w.heap[g]? = some (.cells #[a0, a1, a2, a3, a4, a5, a6, a7] t (0, 0))) :
    w.cell? ⟨g, 0, none⟩ = some a0 ∧ w.cell? ⟨g, 1, none⟩ = some a1 ∧ w.cell? ⟨g, 2, none⟩ = some a2 ∧ w.cell? ⟨g, 3, none⟩ = some a3 ∧ w.cell? ⟨g, 4, none⟩ = some a4 ∧ w.cell? ⟨g, 5, none⟩ = some a5 ∧ w.cell? ⟨g, 6, none⟩ = some a6 ∧ w.cell? ⟨g, 7, none⟩ = some a7 :=
  ⟨cell_of_row _ _ _ _ _ _ h, cell_of_row _ _ _ _ _ _ h, cell_of_row _ _ _ _ _ _ h, cell_of_row _ _ _ _ _ _ h, cell_of_row _ _ _ _ _ _ h, cell_of_row _ _ _ _ _ _ h, cell_of_row _ _ _ _ _ _ h, cell_of_row _ _ _ _ _ _ h⟩
theorem cold_ways (q t m r s v : Int) :
    (stOk t m r s v = false ∧ (stOk t m r s v && decide (m = 0) && oneB v && decide (q = 0)) = false) ∨
    (stOk t m r s v = true ∧ (m == 0) = false ∧ (stOk t m r s v && decide (m = 0) && oneB v && decide (q = 0)) = false) ∨
    (stOk t m r s v = true ∧ m = 0 ∧ v = 0 ∧ (stOk t m r s v && decide (m = 0) && oneB v && decide (q = 0)) = false) ∨
    (stOk t m r s v = true ∧ m = 0 ∧ (v == 0) = false ∧ oneB v = false ∧ (bits .and .i64 v (IntKind.i64.wrap (v - 1)) == 0) = false ∧ (stOk t m r s v && decide (m = 0) && oneB v && decide (q = 0)) = false) ∨
    (stOk t m r s v = true ∧ m = 0 ∧ (v == 0) = false ∧ oneB v = true ∧ (bits .and .i64 v (IntKind.i64.wrap (v - 1)) == 0) = true ∧ (q == 0) = false ∧ (stOk t m r s v && decide (m = 0) && oneB v && decide (q = 0)) = false) ∨
    (stOk t m r s v = true ∧ m = 0 ∧ (v == 0) = false ∧ oneB v = true ∧ (bits .and .i64 v (IntKind.i64.wrap (v - 1)) == 0) = true ∧ q = 0 ∧ (stOk t m r s v && decide (m = 0) && oneB v && decide (q = 0)) = true) := by
  cases hs : stOk t m r s v
  · exact .inl ⟨rfl, by simp⟩
  · have hb := stOk_bd hs
    by_cases hm : m = 0
    · by_cases hv : v = 0
      · exact .inr (.inr (.inl ⟨rfl, hm, hv, by rw [hv, oneB_zero]; simp⟩))
      · have ho := oneB_and v (by omega) (by omega) hv
        rw [← ho]
        cases h1 : oneB v
        · exact .inr (.inr (.inr (.inl ⟨rfl, hm, by simpa using hv, rfl, rfl, by simp⟩)))
        · by_cases hq : q = 0
          · exact .inr (.inr (.inr (.inr (.inr ⟨rfl, hm, by simpa using hv, rfl, rfl, hq, by simp [hm, hq]⟩))))
          · exact .inr (.inr (.inr (.inr (.inl ⟨rfl, hm, by simpa using hv, rfl, rfl, by simpa using hq, by simp [hq]⟩))))
    · exact .inr (.inl ⟨rfl, by simpa using hm, by simp [hm]⟩)
theorem one_len (v : Int) (N : Nat) (h : N = (membersL v).length) : (((N : Nat) : Int) == 1) = oneB v := by
  subst h
  unfold oneB
  rw [Bool.eq_iff_iff]
  simp only [beq_iff_eq, decide_eq_true_eq]
  omega
theorem Below.lt_of' {w : World} {g : Nat} {o : Obj} (h : w.heap[g]? = some o) : g < w.heap.size := by
  rcases Nat.lt_or_ge g w.heap.size with hlt | hge
  · exact hlt
  · rw [Array.getElem?_eq_none hge] at h; cases h
end Go.Proofs.Ytecelofoffdjlaa

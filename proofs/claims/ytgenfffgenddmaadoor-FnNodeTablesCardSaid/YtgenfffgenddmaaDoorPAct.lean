/- What a good table says of finding, of the active vector and of the worst drift: no program in sight. -/
import Derived.Test.YtgenfffgenddmaaDoorNod9
import Derived.Test.YtgenfffgenddmaaDoorNod8
namespace Go.Proofs.YtgenfffgenddmaaDoor
set_option linter.unusedSimpArgs false
set_option linter.unusedVariables false
theorem ids_up {L : List Nd} (h : ntOk L = true) : ∀ (k j : Nat) (d e : Nd), j < k → L[k]? = some d → L[j]? = some e → e.id < d.id := by
  intro k
  induction k with
  | zero => intro j d e hj; omega
  | succ k ih =>
    intro j d e hj hd he
    have hk := (List.getElem?_eq_some_iff.1 hd).1
    have hs := ntK_all (ntOk_split h).2 hk hd
    unfold ntStep at hs
    simp only [Bool.and_eq_true, Bool.or_eq_true, decide_eq_true_eq, beq_iff_eq, Nat.add_sub_cancel] at hs
    have hlt : idAt L k < d.id := by
      rcases hs.1.2 with h0 | h0
      · omega
      · exact h0
    obtain ⟨f, hf⟩ : ∃ f, L[k]? = some f := ⟨_, List.getElem?_eq_getElem (by omega)⟩
    rw [idAt_eq hf] at hlt
    by_cases e1 : j = k
    · subst e1
      obtain rfl := Option.some.inj (he.symm.trans hf)
      exact hlt
    · have := ih j f e (by omega) hf he
      omega
theorem find_self {L : List Nd} {i : Nat} {d : Nd} (h : ntOk L = true) (hd : L[i]? = some d) : fnOut L d.id = (d, 0) := by
  refine fnOut_at h (fIdx_at hd (by simp [fnP]) (fun j e hj he => ?_)) hd
  have := ids_up h i j d e hj hd he
  show (e.id == d.id) = false
  simp; omega
theorem av_bit {L : List Nd} {i : Nat} {d : Nd} (h : ntOk L = true) (hd : L[i]? = some d) : ∀ k, (avK L k).testBit d.id.toNat = (decide (i < k) && !d.pv) := by
  intro k
  induction k with
  | zero => simp [avK]
  | succ k ih =>
    have hr := (ndOk_rng (ntOk_nd h hd)).1
    cases hk : L[k]? with
    | none =>
      have hlen := (List.getElem?_eq_none_iff.1 hk)
      have hi := (List.getElem?_eq_some_iff.1 hd).1
      have e : avK L (k + 1) = avK L k := by simp [avK, hk]
      rw [e, ih, show decide (i < k) = true by simp; omega, show decide (i < k + 1) = true by simp; omega]
    | some f =>
      have hf := (ndOk_rng (ntOk_nd h hk)).1
      rw [avK_next rfl hk]
      unfold av
      by_cases e1 : k = i
      · subst e1
        obtain rfl := Option.some.inj (hd.symm.trans hk)
        rw [show decide (k < k + 1) = true by simp]
        split
        · rename_i hp
          rw [ih, hp]; simp
        · rename_i hp
          rw [testBit_setN, if_pos rfl]; simp at hp; simp [hp]
      · have hne : d.id.toNat ≠ f.id.toNat := by
          by_cases hki : k < i
          · have := ids_up h i k d f hki hd hk; omega
          · have := ids_up h k i f d (by omega) hk hd; omega
        have hdec : decide (i < k + 1) = decide (i < k) := by
          by_cases q : i < k
          · simp [q]; omega
          · simp [q]; omega
        rw [hdec]
        split
        · exact ih
        · rw [testBit_setN, if_neg hne]; exact ih
theorem avK_lt {L : List Nd} (h : ntOk L = true) : ∀ k, avK L k < 4294967296
  | 0 => by simp [avK]
  | k + 1 => by
    unfold avK
    split
    · rename_i d hd
      exact av_lt (avK_lt h k) (ndOk_rng (ntOk_nd h hd)).1
    · exact avK_lt h k
theorem wdK_rng {L : List Nd} (h : ntOk L = true) : ∀ k, (0 ≤ (wdK L k).1 ∧ (wdK L k).1 ≤ 1000) ∧ (0 ≤ (wdK L k).2 ∧ (wdK L k).2 ≤ 1000)
  | 0 => by simp [wdK]
  | k + 1 => by
    have ih := wdK_rng h k
    unfold wdK
    split
    · rename_i d hd
      have := (ndOk_rng (ntOk_nd h hd)).2
      unfold wd
      split
      · exact ⟨this, ih.1⟩
      · split
        · exact ⟨ih.1, this⟩
        · exact ih
    · exact ih
theorem wd_rng {L : List Nd} {t : Int} (h : (wdOut L t).2 = 0) : 0 ≤ t ∧ t ≤ 65535 := by
  cases ho : ntOk L
  · rw [wdOut_no ho] at h; cases h
  cases ht : decide (0 ≤ t ∧ t ≤ 65535)
  · rw [wdOut_t ho ht] at h; cases h
  simpa using ht
theorem wd_half {L : List Nd} {t : Int} (h : (wdOut L t).2 = 0) : (wdOut L (t / 2)).2 = 0 ∧ (wdOut L (t / 2)).1 ≤ (wdOut L t).1 ∧ ntOk L = true := by
  cases ho : ntOk L
  · rw [wdOut_no ho] at h; cases h
  cases ht : decide (0 ≤ t ∧ t ≤ 65535)
  · rw [wdOut_t ho ht] at h; cases h
  have ht1 : 0 ≤ t ∧ t ≤ 65535 := by simpa using ht
  have ht2 : decide (0 ≤ t / 2 ∧ t / 2 ≤ 65535) = true := by simp; omega
  have hr := wdK_rng ho L.length
  have e1 := wdOut_v (x := (wdK L L.length).1) (y := (wdK L L.length).2) rfl ho ht rfl
  have e2 := wdOut_v (x := (wdK L L.length).1) (y := (wdK L L.length).2) rfl ho ht2 rfl
  rw [e1, e2]
  refine ⟨rfl, ?_, rfl⟩
  generalize wdK L L.length = p at *
  obtain ⟨x, y⟩ := p
  simp only at hr ⊢
  unfold wdV
  simp only
  have m1 := wd_mul (x := x) (y := y) (t := t) hr.1 hr.2 ht1
  have m2 := wd_mul (x := x) (y := y) (t := t / 2) hr.1 hr.2 (by omega)
  have hle : (x + y) * (t / 2) ≤ (x + y) * t := Int.mul_le_mul_of_nonneg_left (by omega) (by omega)
  generalize (x + y) * (t / 2) = a at *
  generalize (x + y) * t = b at *
  rw [Int.tdiv_eq_ediv_of_nonneg (by omega), Int.tdiv_eq_ediv_of_nonneg (by omega)]
  omega
end Go.Proofs.YtgenfffgenddmaaDoor

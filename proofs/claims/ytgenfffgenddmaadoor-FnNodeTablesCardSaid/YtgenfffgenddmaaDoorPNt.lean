/- A node table's bytes read back: plain laws. -/
import Derived.Test.YtgenfffgenddmaaDoorRn
namespace Go.Proofs.YtgenfffgenddmaaDoor
set_option linter.unusedSimpArgs false
set_option linter.unusedVariables false
theorem encK_flat {L : List Nd} : ∀ k, k ≤ L.length → encK L k = [(L.length : Int)] ++ (L.take k).flatMap encNd
  | 0, _ => by simp [encK]
  | k + 1, h => by
    rw [encK_next (List.getElem?_eq_getElem (by omega)), encK_flat k (by omega), List.take_succ_eq_append_getElem (by omega), List.flatMap_append, List.append_assoc]
    simp only [List.flatMap_cons, List.flatMap_nil, List.append_nil]
theorem encK_all (L : List Nd) : encK L L.length = [(L.length : Int)] ++ L.flatMap encNd := by
  rw [encK_flat L.length (Nat.le_refl _), List.take_length]
theorem getD_pre (pre ys : List Int) (i : Nat) : (pre ++ ys).getD (pre.length + i) 0 = ys.getD i 0 := by
  simp only [List.getD_eq_getElem?_getD]
  rw [List.getElem?_append_right (by omega), show pre.length + i - pre.length = i by omega]
theorem rd_app : ∀ (L : List Nd) (pre tail : List Int), rd (pre ++ (L.flatMap encNd ++ tail)) L.length pre.length = some (L, pre.length + (L.flatMap encNd).length)
  | [], pre, tail => by simp [rd]
  | d :: L, pre, tail => by
    obtain ⟨R, hR⟩ : ∃ R, R = L.flatMap encNd ++ tail := ⟨_, rfl⟩
    have hx : pre ++ ((d :: L).flatMap encNd ++ tail) = pre ++ (encHd d ++ (encNm d.nm ++ R)) := by
      rw [List.flatMap_cons, hR]
      unfold encNd
      simp
    rw [hx]
    have g (i : Nat) := getD_pre pre (encHd d ++ (encNm d.nm ++ R)) i
    have g0 : (pre ++ (encHd d ++ (encNm d.nm ++ R))).getD pre.length 0 = d.id := (g 0).trans rfl
    have g1 : (pre ++ (encHd d ++ (encNm d.nm ++ R))).getD (pre.length + 1) 0 = d.dr / 256 := (g 1).trans rfl
    have g2 : (pre ++ (encHd d ++ (encNm d.nm ++ R))).getD (pre.length + 2) 0 = d.dr % 256 := (g 2).trans rfl
    have g3 : (pre ++ (encHd d ++ (encNm d.nm ++ R))).getD (pre.length + 3) 0 = pvZ d.pv := (g 3).trans rfl
    have g4 : (pre ++ (encHd d ++ (encNm d.nm ++ R))).getD (pre.length + 4) 0 = (d.nm.size : Int) := (g 4).trans rfl
    have hlen : (pre ++ (encHd d ++ (encNm d.nm ++ R))).length = pre.length + 5 + d.nm.size + R.length := by
      simp only [List.length_append, encNm_len]
      show pre.length + (5 + (d.nm.size + R.length)) = _
      omega
    have hdrop : (pre ++ (encHd d ++ (encNm d.nm ++ R))).drop (pre.length + 5) = encNm d.nm ++ R := by
      rw [← List.append_assoc]
      exact List.drop_left' (by rw [List.length_append]; rfl)
    have hL : rdLen (pre ++ (encHd d ++ (encNm d.nm ++ R))) pre.length = d.nm.size := by
      unfold rdLen
      rw [g4]; rfl
    have hE : rdEnd (pre ++ (encHd d ++ (encNm d.nm ++ R))) pre.length = pre.length + 5 + d.nm.size := by
      unfold rdEnd
      rw [hL]
    have hN : rdNd (pre ++ (encHd d ++ (encNm d.nm ++ R))) pre.length = d := by
      unfold rdNd
      rw [g0, g1, g2, g3, hL]
      have e1 : rdNm (pre ++ (encHd d ++ (encNm d.nm ++ R))) (pre.length + 5) d.nm.size = d.nm := by
        unfold rdNm
        rw [hdrop, List.take_left' (encNm_len d.nm)]
        apply ByteArray.ext
        unfold encNm
        rw [List.map_map]
        have : (fun x : Int => UInt8.ofNat x.toNat) ∘ (fun b : UInt8 => (b.toNat : Int)) = id := by
          funext b
          simp
        rw [this, List.map_id]
      have e2 : 256 * (d.dr / 256) + d.dr % 256 = d.dr := by omega
      have e3 : (pvZ d.pv == 1) = d.pv := by cases d.pv <;> rfl
      rw [e1, e2, e3]
    have hF : rdFit (pre ++ (encHd d ++ (encNm d.nm ++ R))) pre.length = true := by
      unfold rdFit
      rw [hE, hlen]
      simp
      omega
    rw [List.length_cons, rd, if_pos hF, hN, hE]
    have hp : (pre ++ encNd d).length = pre.length + 5 + d.nm.size := by rw [List.length_append, encNd_len]; omega
    have ih := rd_app L (pre ++ encNd d) tail
    rw [hp] at ih
    have hx2 : pre ++ encNd d ++ (L.flatMap encNd ++ tail) = pre ++ (encHd d ++ (encNm d.nm ++ R)) := by
      rw [hR]; unfold encNd; simp
    rw [hx2] at ih
    rw [ih]
    simp only [Option.map_some, List.flatMap_cons, List.length_append, encNd_len]
    congr 2
    omega
theorem allIn_mem {xs : List Int} {lo hi : Int} (h : ∀ z ∈ xs, lo ≤ z ∧ z ≤ hi) : allIn xs lo hi = true := by
  rw [allIn_iff]
  intro k hk
  rw [List.getD_eq_getElem?_getD, List.getElem?_eq_getElem hk]
  exact h _ (List.getElem_mem hk)
theorem enc_byte {L : List Nd} (ho : ntOk L = true) : ∀ z ∈ encK L L.length ++ [1, 2], 0 ≤ z ∧ z ≤ 255 := by
  intro z hz
  have hn := (ntOk_split ho).1
  rw [encK_all] at hz
  rcases List.mem_append.1 hz with hz | hz
  · rcases List.mem_append.1 hz with hz | hz
    · simp at hz; omega
    · obtain ⟨d, hd, hz⟩ := List.mem_flatMap.1 hz
      obtain ⟨k, hk⟩ := List.getElem?_of_mem hd
      have hok := ntOk_nd ho hk
      obtain ⟨r0, r1⟩ := ndOk_rng hok
      have hs := ndOk_nm hok
      unfold encNd at hz
      rcases List.mem_append.1 hz with hz | hz
      · unfold encHd at hz
        simp at hz
        rcases hz with rfl | rfl | rfl | rfl | rfl
        · omega
        · omega
        · omega
        · unfold pvZ; split <;> omega
        · omega
      · unfold encNm at hz
        obtain ⟨b, _, rfl⟩ := List.mem_map.1 hz
        have := b.toNat_lt
        omega
  · simp at hz; omega
theorem rn_back {L : List Nd} (ho : ntOk L = true) : rnL (encK L L.length ++ [1, 2]) = L ∧ rnP (encK L L.length ++ [1, 2]) = (encK L L.length).length ∧ rnC (encK L L.length ++ [1, 2]) = 0 := by
  have hlen := encK_len (L := L) (fun k d hd => ndOk_nm (ntOk_nd ho hd)) L.length
  have hn := (ntOk_split ho).1
  have hb : bytesOk (encK L L.length ++ [1, 2]) = true := by
    unfold bytesOk
    rw [allIn_mem (enc_byte ho), Bool.and_true]
    simp
    omega
  have hout : rdOut (encK L L.length ++ [1, 2]) = some (L, (encK L L.length).length) := by
    unfold rdOut
    rw [if_neg (by simp)]
    have e0 : (encK L L.length ++ [1, 2]).getD 0 0 = (L.length : Int) := by rw [encK_all]; rfl
    rw [e0]
    have h := rd_app L [(L.length : Int)] [1, 2]
    have e1 : [(L.length : Int)] ++ (L.flatMap encNd ++ [1, 2]) = encK L L.length ++ [1, 2] := by rw [encK_all]; simp
    rw [e1] at h
    have e2 : (encK L L.length).length = [(L.length : Int)].length + (L.flatMap encNd).length := by rw [encK_all, List.length_append]
    rw [e2]
    exact h
  have hres : rdRes (encK L L.length ++ [1, 2]) = some (L, (encK L L.length).length) := by
    rw [rdRes_if hout ho, if_pos]
    rw [List.take_left' rfl]
    exact eqL_refl _
  obtain ⟨e1, e2, e3⟩ := rd_yes hres
  obtain ⟨f1, f2, f3⟩ := rn_yes hb e3
  exact ⟨f1.trans e1, f2.trans e2, f3⟩
theorem rd_le {xs : List Int} : ∀ (k p : Nat) (q : List Nd × Nat), rd xs k p = some q → p ≤ xs.length → q.2 ≤ xs.length
  | 0, p, q, h, hp => by
    rw [rd] at h
    injection h with h
    subst h
    exact hp
  | k + 1, p, q, h, hp => by
    rw [rd] at h
    split at h
    · rename_i hf
      unfold rdFit at hf
      rw [Bool.and_eq_true, decide_eq_true_eq, decide_eq_true_eq] at hf
      cases hr : rd xs k (rdEnd xs p) with
      | none => rw [hr] at h; cases h
      | some r =>
        rw [hr] at h
        injection h with h
        subst h
        exact rd_le k _ r hr hf.2
    · cases h
theorem rn_again {xs : List Int} (h : rnC xs = 0) : ntOk (rnL xs) = true ∧ eqL (encK (rnL xs) (rnL xs).length) (xs.take (rnP xs)) = true ∧ rnP xs ≤ xs.length := by
  cases hb : bytesOk xs
  · have := (rn_bad hb).2.2; omega
  · cases ho : rdB xs
    · have := (rn_no hb ho).2.2; omega
    · obtain ⟨e1, e2, -⟩ := rn_yes hb ho
      unfold rdB at ho
      obtain ⟨⟨L, p⟩, hr⟩ := Option.isSome_iff_exists.1 ho
      obtain ⟨f1, f2, -⟩ := rd_yes hr
      rw [e1, e2, f1, f2]
      obtain ⟨g1, g2, g3⟩ := rd_ntOk hr
      refine ⟨g1, g2, ?_⟩
      unfold rdOut at g3
      split at g3
      · cases g3
      · exact rd_le _ _ _ g3 (by omega)
end Go.Proofs.YtgenfffgenddmaaDoor

/- Plain laws of images. -/
import Derived.Test.YtjheanonklgbcaaDat2
namespace Go.Proofs.Ytjheanonklgbcaa
open Go.RowKit
set_option linter.unusedSimpArgs false
set_option linter.unusedVariables false
/-- The block k. -/
def blkL (data : List Int) (k : Nat) : List Int := blkH data k ++ three (regC k (blkH data k))
theorem blkL_len (data : List Int) (k : Nat) : (blkL data k).length = 5 + min 28 (data.length - k * 28) := by simp only [blkL, List.length_append, blkH_len, three_len]; omega
theorem imgL_succ (data : List Int) (m : Nat) : imgL data (m + 1) = imgL data m ++ blkL data m := by simp [imgL, blkL, List.append_assoc]
theorem imgL_split (data : List Int) (k : Nat) : ∀ d : Nat, ∃ r, imgL data (k + 1 + d) = imgL data k ++ (blkL data k ++ r) ∧ (d = 0 → r = [])
  | 0 => ⟨[], by rw [Nat.add_zero, imgL_succ, List.append_nil], fun _ => rfl⟩
  | d + 1 => by
    obtain ⟨r, h, -⟩ := imgL_split data k d
    exact ⟨r ++ blkL data (k + 1 + d), by rw [show k + 1 + (d + 1) = (k + 1 + d) + 1 by omega, imgL_succ, h]; simp [List.append_assoc], fun e => by omega⟩
theorem imgL_full (data : List Int) : ∀ k : Nat, k * 28 ≤ data.length → (imgL data k).length = 33 * k
  | 0, _ => rfl
  | k + 1, h => by
    have := imgL_full data k (by omega)
    rw [imgL_succ, List.length_append, this, blkL_len]
    omega
theorem cutN28 {n k : Nat} (h : k < cutN 28 n) : k * 28 ≤ n ∧ (k + 1 < cutN 28 n → (k + 1) * 28 ≤ n) ∧ (k + 1 = cutN 28 n → n ≤ (k + 1) * 28) := by
  unfold cutN at *
  split at h
  · rename_i e; subst e; simp only [if_true] at *; omega
  · rename_i e; simp only [if_neg e] at *; omega
/-- The slices of an image are its blocks. -/
theorem cut_img (data : List Int) (k : Nat) (hk : k < cutN 28 data.length) : cutL 33 (imgL data (cutN 28 data.length)) k = blkL data k := by
  obtain ⟨h1, h2, h3⟩ := cutN28 hk
  obtain ⟨d, hd⟩ : ∃ d, cutN 28 data.length = k + 1 + d := ⟨cutN 28 data.length - (k + 1), by omega⟩
  obtain ⟨r, hr, hr0⟩ := imgL_split data k d
  have hl := imgL_full data k h1
  have hbl := blkL_len data k
  unfold cutL
  rw [hd, hr, show k * 33 = (imgL data k).length by omega, List.drop_left]
  by_cases hz : d = 0
  · rw [hr0 hz, List.append_nil, List.take_of_length_le (by omega)]
  · have := h2 (by omega)
    rw [show 33 = (blkL data k).length by omega, List.take_left]
theorem img_len (data : List Int) : (imgL data (cutN 28 data.length)).length = data.length + 5 * cutN 28 data.length := by
  have h1 : 1 ≤ cutN 28 data.length := by unfold cutN; split <;> omega
  obtain ⟨k, hk⟩ : ∃ k, cutN 28 data.length = k + 1 := ⟨cutN 28 data.length - 1, by omega⟩
  obtain ⟨a, b, c⟩ := cutN28 (n := data.length) (k := k) (by omega)
  have hl := imgL_full data k a
  have := c hk.symm
  rw [hk, imgL_succ, List.length_append, hl, blkL_len]
  omega
theorem img_cut33 (data : List Int) : cutN 33 (imgL data (cutN 28 data.length)).length = cutN 28 data.length := by
  have hl := img_len data
  have h1 : 1 ≤ cutN 28 data.length := by unfold cutN; split <;> omega
  have hne : (imgL data (cutN 28 data.length)).length ≠ 0 := by omega
  unfold cutN at hl h1 hne ⊢
  rw [if_neg hne, hl]
  split <;> omega
theorem blkL_bad {data : List Int} {xs : List Int} {k : Nat} (h : cutL 33 xs k = blkL data k) : badB xs k = false := by
  have hbl := blkL_len data k
  have hh := blkH_len data k
  have e3 : (blkL data k).length - 3 = (blkH data k).length := by omega
  unfold badB
  rw [h, e3, show (blkL data k).take (blkH data k).length = blkH data k by simp [blkL], show (blkL data k).drop (blkH data k).length = three (regC k (blkH data k)) by simp [blkL], eqL_refl]
  simp only [Bool.not_true, Bool.or_false, decide_eq_false_iff_not]
  omega
theorem dmgL_none {xs : List Int} : ∀ {m : Nat}, (∀ k, k < m → badB xs k = false) → dmgL xs m = []
  | 0, _ => rfl
  | m + 1, h => by
    have h1 := dmgL_none (m := m) (fun k hk => h k (by omega))
    have h2 := h m (by omega)
    simp [dmgL, h1, h2]
/-- No block of an image is damaged. -/
theorem img_sound (data : List Int) : dmgL (imgL data (cutN 28 data.length)) (cutN 28 data.length) = [] :=
  dmgL_none fun k hk => blkL_bad (cut_img data k hk)
theorem datK_img {data : List Int} {xs : List Int} {k : Nat} (h : cutL 33 xs k = blkL data k) : datK xs k = cutL 28 data k := by
  have hbl := blkL_len data k
  have hc := cutL_len 28 data k
  unfold datK
  rw [h, show (blkL data k).drop 2 = cutL 28 data k ++ three (regC k (blkH data k)) from rfl, show (blkL data k).length - 5 = (cutL 28 data k).length by omega, List.take_left]
theorem datL_img {data xs : List Int} : ∀ {m : Nat}, (∀ k, k < m → cutL 33 xs k = blkL data k) → datL xs m = data.take (m * 28)
  | 0, _ => by simp [datL]
  | m + 1, h => by
    rw [datL, datL_img (fun k hk => h k (by omega)), datK_img (h m (by omega)), Nat.add_mul, Nat.one_mul, List.take_add]
    rfl
theorem img_data (data : List Int) : datL (imgL data (cutN 28 data.length)) (cutN 28 data.length) = data := by
  rw [datL_img (fun k hk => cut_img data k hk)]
  apply List.take_of_length_le
  have h1 : 1 ≤ cutN 28 data.length := by unfold cutN; split <;> omega
  obtain ⟨k, hk⟩ : ∃ k, cutN 28 data.length = k + 1 := ⟨cutN 28 data.length - 1, by omega⟩
  have := (cutN28 (n := data.length) (k := k) (by omega)).2.2 hk.symm
  omega
theorem img_mem {data : List Int} (h : ∀ x ∈ data, 0 ≤ x ∧ x ≤ 255) : ∀ {m : Nat}, m ≤ 40 → ∀ x ∈ imgL data m, 0 ≤ x ∧ x ≤ 255
  | 0, _, x, hx => by cases hx
  | m + 1, hm, x, hx => by
    rw [imgL_succ] at hx
    rcases List.mem_append.1 hx with hx | hx
    · exact img_mem h (by omega) x hx
    · rcases List.mem_append.1 hx with hx | hx
      · exact blkH_mem h (by omega) x hx
      · exact three_mem _ (regC_lt m _ (by omega)) x hx
/-- All that the law says of an image of bytes. -/
theorem img_all {data : List Int} (h : imC data = 0) :
    doC (imR data) = 0 ∧ doL (imR data) = data ∧ dbC (imR data) = 0 ∧ dbL (imR data) = [] ∧ (imR data).length = data.length + 5 * cutN 28 data.length ∧ data.length ≤ 868 := by
  have hR : imR data = imgL data (cutN 28 data.length) := by simp [imR, h]
  unfold imC at h
  split at h
  · rename_i hb
    split at h
    · rename_i h8
      have hbm := byt_all hb
      have hc := cut28_le _ h8
      have hl := img_len data
      have hIb : bytesOk (imgL data (cutN 28 data.length)) = true := by
        have hm := img_mem hbm (m := cutN 28 data.length) (by omega)
        have h5 : 5 * cutN 28 data.length ≤ 155 := by omega
        simp only [bytesOk, Bool.and_eq_true, decide_eq_true_eq]
        exact ⟨by omega, (allIn_iff _ 0 255).2 fun i hi => getD_mem hm i hi⟩
      rw [hR]
      have hs := img_sound data
      have hd := img_data data
      have h3 := img_cut33 data
      have hdt : dtC (imgL data (cutN 28 data.length)) = 0 := by
        unfold dtC
        rw [h3, if_pos hs, hd, if_pos ⟨h8, rfl⟩]
      refine ⟨?_, ?_, ?_, ?_, hl, h8⟩
      · rw [doC, hIb, if_pos rfl]; exact hdt
      · rw [doL, hIb, if_pos rfl, dtL, if_pos hdt, h3, hd]
      · rw [dbC, hIb, if_pos rfl]
      · rw [dbL, hIb, if_pos rfl, h3, hs]
    · simp at h
  · simp at h
end Go.Proofs.Ytjheanonklgbcaa

/- Names as the program reads them: plain laws. -/
import Derived.Test.YtgenfffgenddmaaDoorRdP
import Derived.Test.YtgenfffgenddmaaDoorNod13
import Derived.Laws.Runes
namespace Go.Proofs.YtgenfffgenddmaaDoor
set_option linter.unusedSimpArgs false
set_option linter.unusedVariables false
def uniZ (zs : List Int) : ByteArray := zs.foldl (fun s x => s ++ Utf8.encode (RowKit.wrap32 x)) ⟨#[]⟩
def uniL (l : List UInt8) : ByteArray := l.foldl (fun s b => s ++ Utf8.encode (b.toNat : Int)) ⟨#[]⟩
def uniNd (d : Nd) : Nd := ⟨d.id, uniL d.nm.data.toList, d.dr, d.pv⟩
theorem enc_size (r : Int) : (Utf8.encode r).size ≤ 4 := by
  unfold Utf8.encode
  simp only []
  split
  · split
    · exact Nat.le_of_ble_eq_true rfl
    · split
      · exact Nat.le_of_ble_eq_true rfl
      · split
        · exact Nat.le_of_ble_eq_true rfl
        · exact Nat.le_of_ble_eq_true rfl
  · split
    · exact Nat.le_of_ble_eq_true rfl
    · split
      · exact Nat.le_of_ble_eq_true rfl
      · split
        · exact Nat.le_of_ble_eq_true rfl
        · exact Nat.le_of_ble_eq_true rfl
theorem uniZ_app (zs : List Int) (x : Int) : uniZ (zs ++ [x]) = uniZ zs ++ Utf8.encode (RowKit.wrap32 x) := by simp [uniZ, List.foldl_append]
theorem uniL_app (l : List UInt8) (b : UInt8) : uniL (l ++ [b]) = uniL l ++ Utf8.encode (b.toNat : Int) := by simp [uniL, List.foldl_append]
theorem foldZ_size : ∀ (zs : List Int) (s : ByteArray), (zs.foldl (fun s x => s ++ Utf8.encode (RowKit.wrap32 x)) s).size ≤ s.size + 4 * zs.length
  | [], s => by simp
  | z :: zs, s => by
    have h := foldZ_size zs (s ++ Utf8.encode (RowKit.wrap32 z))
    have := enc_size (RowKit.wrap32 z)
    rw [ByteArray.size_append] at h
    simp only [List.foldl_cons, List.length_cons]
    omega
theorem uniZ_size (zs : List Int) : (uniZ zs).size ≤ 4 * zs.length := by
  have := foldZ_size zs ⟨#[]⟩
  have e : (⟨#[]⟩ : ByteArray).size = 0 := rfl
  unfold uniZ
  omega
theorem foldZ_L : ∀ (zs : List Int) (s : ByteArray), (∀ z ∈ zs, 0 ≤ z ∧ z ≤ 255) →
    zs.foldl (fun s x => s ++ Utf8.encode (RowKit.wrap32 x)) s = (zs.map fun x => UInt8.ofNat x.toNat).foldl (fun s b => s ++ Utf8.encode (b.toNat : Int)) s
  | [], s, _ => rfl
  | z :: zs, s, h => by
    have hz := h z (by simp)
    have e : RowKit.wrap32 z = ((UInt8.ofNat z.toNat).toNat : Int) := by
      simp [RowKit.wrap32]
      omega
    simp only [List.foldl_cons, List.map_cons]
    rw [e]
    exact foldZ_L zs _ (fun y hy => h y (by simp [hy]))
theorem uniZ_L {zs : List Int} (h : ∀ z ∈ zs, 0 ≤ z ∧ z ≤ 255) : uniZ zs = uniL (zs.map fun x => UInt8.ofNat x.toNat) := foldZ_L zs _ h
theorem enc_ascii (b : UInt8) (h : b.toNat < 128) : Utf8.encode (b.toNat : Int) = ⟨#[b]⟩ := by
  have hv : Utf8.valid (b.toNat : Int) = true := by
    rw [validRune_eq]; simp [validRune]; omega
  unfold Utf8.encode
  simp only [hv, if_true]
  rw [if_pos (by omega)]
  simp
theorem enc_high (b : UInt8) (h : 128 ≤ b.toNat) : ∃ c ∈ (Utf8.encode (b.toNat : Int)).data.toList, 128 ≤ c.toNat := by
  have hl := b.toNat_lt
  have hv : Utf8.valid (b.toNat : Int) = true := by
    rw [validRune_eq]; simp [validRune]; omega
  unfold Utf8.encode
  simp only [hv, if_true]
  rw [if_neg (by omega), if_pos (by omega)]
  refine ⟨UInt8.ofNat (0x80 + (b.toNat : Int).toNat % 64), by simp, ?_⟩
  simp
  omega
theorem foldL_ascii : ∀ (l : List UInt8) (s : ByteArray), (∀ b ∈ l, b.toNat < 128) → l.foldl (fun s b => s ++ Utf8.encode (b.toNat : Int)) s = s ++ ⟨l.toArray⟩
  | [], s, _ => by
    apply ByteArray.ext
    simp
  | b :: l, s, h => by
    simp only [List.foldl_cons]
    rw [enc_ascii b (h b (by simp)), foldL_ascii l _ (fun y hy => h y (by simp [hy]))]
    apply ByteArray.ext
    simp
theorem uniL_ascii {s : ByteArray} (h : ∀ b ∈ s.data.toList, b.toNat < 128) : uniL s.data.toList = s := by
  unfold uniL
  rw [foldL_ascii _ _ h]
  apply ByteArray.ext
  simp
theorem foldL_high : ∀ (l : List UInt8) (s : ByteArray), ((∃ c ∈ s.data.toList, 128 ≤ c.toNat) ∨ ∃ b ∈ l, 128 ≤ b.toNat) → ∃ c ∈ (l.foldl (fun s b => s ++ Utf8.encode (b.toNat : Int)) s).data.toList, 128 ≤ c.toNat
  | [], s, h => by
    rcases h with h | ⟨b, hb, _⟩
    · exact h
    · simp at hb
  | b :: l, s, h => by
    simp only [List.foldl_cons]
    apply foldL_high
    rcases h with ⟨c, hc, h1⟩ | ⟨c, hc, h1⟩
    · exact .inl ⟨c, by simp [hc], h1⟩
    · rcases List.mem_cons.1 hc with rfl | hc
      · obtain ⟨e, he, h2⟩ := enc_high c h1
        exact .inl ⟨e, by simp [he], h2⟩
      · exact .inr ⟨c, hc, h1⟩
theorem okCh_ascii (c : UInt8) (h : okCh c = true) : c.toNat < 128 := by
  have H : ∀ n : Fin 256, okCh (UInt8.ofNat n.val) = true → (UInt8.ofNat n.val).toNat < 128 := by decide +kernel
  have := H ⟨c.toNat, c.toNat_lt⟩
  simp at this
  exact this h
theorem okNm_ascii {s : ByteArray} (h : okNm s = true) : ∀ b ∈ s.data.toList, b.toNat < 128 := by
  intro b hb
  unfold okNm at h
  rw [Bool.and_eq_true, List.all_eq_true] at h
  exact okCh_ascii b (h.2 b hb)
theorem uniNd_same {d : Nd} (h : ∀ b ∈ d.nm.data.toList, b.toNat < 128) : uniNd d = d := by
  unfold uniNd
  rw [uniL_ascii h]
theorem uniNd_bad {d : Nd} (h : ¬ ∀ b ∈ d.nm.data.toList, b.toNat < 128) : ndOk d = false ∧ ndOk (uniNd d) = false := by
  have h' : ∃ b ∈ d.nm.data.toList, 128 ≤ b.toNat := by
    apply Classical.byContradiction
    intro hn
    exact h fun b hb => by
      rcases Nat.lt_or_ge b.toNat 128 with hl | hl
      · exact hl
      · exact absurd ⟨b, hb, hl⟩ hn
  constructor
  · cases e : ndOk d
    · rfl
    · exfalso
      unfold ndOk at e
      rw [Bool.and_eq_true, Bool.and_eq_true] at e
      exact h (okNm_ascii e.1.1)
  · cases e : ndOk (uniNd d)
    · rfl
    · exfalso
      unfold ndOk at e
      rw [Bool.and_eq_true, Bool.and_eq_true] at e
      obtain ⟨c, hc, h1⟩ := foldL_high d.nm.data.toList ⟨#[]⟩ (.inr h')
      have := okNm_ascii e.1.1 c hc
      omega
theorem ntOk_uni (L : List Nd) : ntOk (L.map uniNd) = ntOk L ∧ (ntOk L = true → L.map uniNd = L) := by
  by_cases h : ∀ d ∈ L, ∀ b ∈ d.nm.data.toList, b.toNat < 128
  · have e : L.map uniNd = L := (List.map_congr_left (g := fun d => d) (fun d hd => uniNd_same (h d hd))).trans (List.map_id' L)
    rw [e]
    exact ⟨rfl, fun _ => rfl⟩
  · have h' : ∃ d ∈ L, ¬ ∀ b ∈ d.nm.data.toList, b.toNat < 128 := by
      apply Classical.byContradiction
      intro hn
      exact h fun d hd => Classical.byContradiction fun hc => hn ⟨d, hd, hc⟩
    obtain ⟨d, hd, hb⟩ := h'
    obtain ⟨h1, h2⟩ := uniNd_bad hb
    obtain ⟨k, hk⟩ := List.getElem?_of_mem hd
    have n1 : ntOk L = false := by
      cases e : ntOk L
      · rfl
      · have := ntOk_nd e hk
        rw [h1] at this; cases this
    have n2 : ntOk (L.map uniNd) = false := by
      cases e : ntOk (L.map uniNd)
      · rfl
      · have := ntOk_nd e (by rw [List.getElem?_map, hk]; rfl)
        rw [h2] at this; cases this
    rw [n1, n2]
    exact ⟨rfl, fun hh => by cases hh⟩
theorem eqL_comm (xs ys : List Int) : eqL xs ys = eqL ys xs := by
  unfold eqL
  congr 1
  exact propext ⟨Eq.symm, Eq.symm⟩
theorem bytes_mem {xs : List Int} (h : bytesOk xs = true) {z : Int} (hz : z ∈ xs) : 0 ≤ z ∧ z ≤ 255 := by
  obtain ⟨k, hk, rfl⟩ := List.getElem_of_mem hz
  have := bytesOk_at h k hk
  rw [List.getD_eq_getElem?_getD, List.getElem?_eq_getElem hk] at this
  simpa using this
theorem uni_rd {xs : List Int} {p len : Nat} (hb : bytesOk xs = true) (hl : rdLen xs p = len) :
    uniNd (rdNd xs p) = ⟨xs.getD p 0, uniZ ((xs.drop (p + 5)).take len), 256 * xs.getD (p + 1) 0 + xs.getD (p + 2) 0, xs.getD (p + 3) 0 == 1⟩ := by
  unfold uniNd rdNd
  rw [hl, uniZ_L (fun z hz => bytes_mem hb (List.mem_of_mem_drop (List.mem_of_mem_take hz)))]
  rfl
theorem sim_step {xs : List Int} {L L' : List Nd} {p len : Nat} (hb : bytesOk xs = true) (hl : rdLen xs p = len) (h : L' = L.map uniNd) :
    L' ++ [⟨xs.getD p 0, uniZ ((xs.drop (p + 5)).take len), 256 * xs.getD (p + 1) 0 + xs.getD (p + 2) 0, xs.getD (p + 3) 0 == 1⟩] = (L ++ [rdNd xs p]).map uniNd := by
  rw [List.map_append, List.map_cons, List.map_nil, uni_rd hb hl, h]
theorem sim_bad {xs : List Int} {L L' : List Nd} {p : Nat} (h : rdOut xs = some (L, p)) (he : L' = L.map uniNd) (ho : ntOk L' = false) : rdRes xs = none := by
  rw [he, (ntOk_uni L).1] at ho
  exact rdRes_bad h ho
theorem sim_if {xs : List Int} {L L' : List Nd} {p : Nat} (h : rdOut xs = some (L, p)) (he : L' = L.map uniNd) (ho : ntOk L' = true) :
    rdRes xs = if eqL (xs.take p) (encK L' L'.length) = true then some (L', p) else none := by
  have ho' := ho
  rw [he, (ntOk_uni L).1] at ho'
  rw [he, (ntOk_uni L).2 ho', rdRes_if h ho', eqL_comm]
end Go.Proofs.YtgenfffgenddmaaDoor

/- Two tables compared; slices.IndexFunc and ContainsFunc over nodes; the program's IsNodeTable. -/
import Derived.Test.YtgenfffgenddmaaDoorNod3
import Derived.BigQuiet
import Derived.Deep.RegionHeld3
import Derived.BigRegion
namespace Go.Proofs.YtgenfffgenddmaaDoor
open Go.RowKit
set_option linter.unusedSimpArgs false
set_option linter.unusedVariables false
theorem two_new3 (w : World) (a b : Obj) : ∃ W, (w.alloc a).alloc b = W ∧ W.heap[w.heap.size]? = some a ∧ W.heap[w.heap.size + 1]? = some b ∧ Below w.heap.size w W ∧ W.heap.size = w.heap.size + 2 := by
  refine ⟨_, rfl, ?_, ?_, ((Below.refl _ _).alloc (Nat.le_refl _) _).alloc (by simp) _, by simp⟩
  · rw [Below.heap_alloc _ _ _ (by simp)]; exact heap_alloc_new w a
  · have := heap_alloc_new (w.alloc a) b
    simpa using this
set_option maxHeartbeats 1000000 in
theorem h_eqNodeInfo (d : Nd) (w : World) :
    Calls Tryd.prog 30 #[.agg d.cells, .agg d.cells] w fun e w' => e = .returned (.bool true) ∧ Below w.heap.size w w' := by
  obtain ⟨W, hW, R1, R2, BW, zW⟩ := two_new3 w (.cells d.cells 36) (.cells d.cells 36)
  have HW := Lib.hid hW
  clear hW zW
  obtain ⟨i, s, r, p⟩ := d
  unfold Nd.cells at *
  obtain ⟨c0, c1, c2, c3⟩ := cells4 R1
  obtain ⟨d0, d1, d2, d3⟩ := cells4 R2
  clear R1 R2
  go_enter Tryd.func30, Tryd.ntmps30
  go_upto_region 1 with fail
  rw [HW.out]
  go_wp2
  go_ret
  exact ⟨rfl, BW⟩
set_option maxHeartbeats 4000000 in
theorem h_eqNodeInfoS (A A' : Option Addr) (n c c' : Nat) (L : List Nd) (B B' : Nat) (w : World) (h : NodesAt w B A n c L) (h' : NodesAt w B' A' n c' L) (hB : B ≤ w.heap.size) (hB' : B' ≤ w.heap.size) :
    Calls Tryd.prog 15 #[.slice A n c, .slice A' n c'] w fun e w' => e = .returned (.bool true) ∧ Below w.heap.size w w' := by
  have hn := h.2.2.1
  go_enter Tryd.func15, Tryd.ntmps15
  go_wp2
  go_loopw [5] (fun i wr => ∃ k : Nat, k ≤ n ∧ i = .int .i64 k ∧ Below w.heap.size w wr) (fun i _ => n - (intOf i).toNat)
  case atStart => exact ⟨0, Nat.zero_le _, rfl, Below.refl _ _⟩
  case round =>
    obtain ⟨k, hk, rfl, hb⟩ := hrel
    have zb := hb.size
    by_cases hlt : k < n
    · obtain ⟨ad, d, rfl, hab, hd, cs, -⟩ := h.at_ k hlt
      obtain ⟨ad', d', rfl, hab', hd', cs', -⟩ := h'.at_ k hlt
      obtain rfl := Option.some.inj (hd.symm.trans hd')
      have hT := Lib.hid (fun W => h_eqNodeInfo d W)
      unfold Nd.cells at hT
      have HK := Lib.hid (fun (W : World) (b : Below w.heap.size w W) => And.intro (cs.keep (w' := W) fun p hp => b.cell (by rw [hp]; omega)) (cs'.keep (w' := W) fun p hp => b.cell (by rw [hp]; omega)))
      obtain ⟨⟨c0, c1, c2, c3⟩, ⟨d0, d1, d2, d3⟩⟩ := HK.out wr hb
      clear cs cs' hd hd' h h'
      have b0 : (0 : Int) ≤ (k : Int) := by omega
      have b1 : (k : Int) < (n : Int) := by omega
      go_wp2_with fail
      go_region_held3 (fun w' => w'.cell? (ad.add (k * 4)) = some (.int .i64 d.id) ∧ w'.cell? ⟨(ad.add (k * 4)).block, (ad.add (k * 4)).off + 1, none⟩ = some (.string d.nm) ∧ w'.cell? ⟨(ad.add (k * 4)).block, (ad.add (k * 4)).off + 2, none⟩ = some (.int .i64 d.dr) ∧ w'.cell? ⟨(ad.add (k * 4)).block, (ad.add (k * 4)).off + 3, none⟩ = some (.bool d.pv) ∧ w'.cell? (ad'.add (k * 4)) = some (.int .i64 d.id) ∧ w'.cell? ⟨(ad'.add (k * 4)).block, (ad'.add (k * 4)).off + 1, none⟩ = some (.string d.nm) ∧ w'.cell? ⟨(ad'.add (k * 4)).block, (ad'.add (k * 4)).off + 2, none⟩ = some (.int .i64 d.dr) ∧ w'.cell? ⟨(ad'.add (k * 4)).block, (ad'.add (k * 4)).off + 3, none⟩ = some (.bool d.pv)) (go_keep) (first
        | (go_at_call 30; refine (hT.out _).mono ?_; rintro e w2 ⟨rfl, b2⟩; have hb2 : Below w.heap.size w w2 := hb.drew.trans (b2.mono zb); obtain ⟨⟨k0, k1, k2, k3⟩, ⟨l0, l1, l2, l3⟩⟩ := HK.out w2 hb2))
      clear c0 c1 c2 c3 d0 d1 d2 d3 hT k0 k1 k2 k3 l0 l1 l2 l3
      go_wp2
      go_roundw
      case rel => exact ⟨k + 1, by omega, by go_num, hb2⟩
      case measure => simp [intOf]; omega
    · go_wp2
      go_ret
      exact ⟨rfl, hb⟩
/-- The first place that a test finds, or -1. -/
def fIdx (p : Nd → Bool) (L : List Nd) : Int := match L.findIdx? p with | some k => (k : Int) | none => -1
theorem fIdx_at {p : Nd → Bool} {L : List Nd} {k : Nat} {d : Nd} (hd : L[k]? = some d) (hp : p d = true) (hb : ∀ (j : Nat) (e : Nd), j < k → L[j]? = some e → p e = false) : fIdx p L = k := by
  have : L.findIdx? p = some k := by
    rw [List.findIdx?_eq_some_iff_getElem]
    obtain ⟨hk, rfl⟩ := List.getElem?_eq_some_iff.1 hd
    exact ⟨hk, hp, fun j hj => by rw [hb j _ hj (List.getElem?_eq_getElem (by omega))]; simp⟩
  unfold fIdx; rw [this]
theorem fIdx_none {p : Nd → Bool} {L : List Nd} (hb : ∀ (j : Nat) (e : Nd), j < L.length → L[j]? = some e → p e = false) : fIdx p L = -1 := by
  have : L.findIdx? p = none := by
    rw [List.findIdx?_eq_none_iff]
    intro x hx
    obtain ⟨j, hj, rfl⟩ := List.mem_iff_getElem.1 hx
    exact hb j _ hj (List.getElem?_eq_getElem hj)
  unfold fIdx; rw [this]
theorem fIdx_any (p : Nd → Bool) (L : List Nd) : decide (0 ≤ fIdx p L) = L.any p := by
  unfold fIdx
  cases h : L.findIdx? p with
  | none =>
    rw [List.findIdx?_eq_none_iff] at h
    have : L.any p = false := by rw [List.any_eq_false]; intro x hx; simp [h x hx]
    rw [this]; simp
  | some k =>
    rw [List.findIdx?_eq_some_iff_getElem] at h
    obtain ⟨hk, hp, _⟩ := h
    have : L.any p = true := List.any_eq_true.2 ⟨_, List.getElem_mem hk, hp⟩
    rw [this]; simp
set_option maxHeartbeats 2000000 in
theorem l_IndexNm (A : Option Addr) (n c : Nat) (L : List Nd) (cap : Value) (p : Nd → Bool) (B : Nat) (w : World) (h : NodesAt w B A n c L) (hB : B ≤ w.heap.size)
    (hF : ∀ (W : World) (d : Nd), Below w.heap.size w W → Calls Tryd.prog 58 #[.agg d.cells, cap] W fun e w' => e = .returned (.bool (p d)) ∧ Below W.heap.size W w') :
    Calls Tryd.prog 85 #[.slice A n c, .func (.func 58) #[] #[cap]] w fun e w' => e = .returned (.int .i64 (fIdx p L)) ∧ Below w.heap.size w w' := by
  have hn := h.2.2.1
  have hl := Lib.hid h.1
  have HF := Lib.hid hF
  clear hF
  go_enter Tryd.func85, Tryd.ntmps85
  go_wp2
  go_loopw [8] (fun i wr => ∃ k : Nat, k ≤ n ∧ i = .int .i64 k ∧ Hid (∀ (j : Nat) (e : Nd), j < k → L[j]? = some e → p e = false) ∧ Below w.heap.size w wr) (fun i _ => n - (intOf i).toNat)
  case atStart => exact ⟨0, Nat.zero_le _, rfl, Lib.hid (fun j e hj => by omega), Below.refl _ _⟩
  case round =>
    obtain ⟨k, hk, rfl, H, hb⟩ := hrel
    have zb := hb.size
    by_cases hlt : k < n
    · obtain ⟨ad, d, rfl, hab, hd, cs, -⟩ := h.at_ k hlt
      obtain ⟨c0, c1, c2, c3⟩ := cs.keep (w' := wr) fun p hp => hb.cell (by rw [hp]; omega)
      have hC := Lib.hid (HF.out wr d hb)
      unfold Nd.cells at hC
      have HD := Lib.hid hd
      clear h cs hd
      cases hp : p d
      · have HN := Lib.hid (show ∀ (j : Nat) (e : Nd), j < k + 1 → L[j]? = some e → p e = false from fun j e hj he => by
          by_cases ee : j = k
          · subst ee
            obtain rfl := Option.some.inj (HD.out.symm.trans he)
            exact hp
          · exact H.out j e (by omega) he)
        rw [hp] at hC
        clear hp
        go_wp2_with fail
        refine hC.out.mono ?_
        rintro e w2 ⟨rfl, b2⟩
        have hb2 := hb.trans (b2.mono zb)
        clear c0 c1 c2 c3 b2 hb hC
        go_wp2
        go_roundw
        case rel => exact ⟨k + 1, by omega, by go_num, HN, hb2⟩
        case measure => simp [intOf]; omega
      · have HT := Lib.hid (fIdx_at HD.out hp H.out)
        rw [hp] at hC
        clear hp
        go_wp2_with fail
        refine hC.out.mono ?_
        rintro e w2 ⟨rfl, b2⟩
        have hb2 := hb.trans (b2.mono zb)
        clear c0 c1 c2 c3 b2 hb hC
        go_wp2
        go_ret
        exact ⟨by rw [HT.out]; rfl, hb2⟩
    · obtain rfl : k = n := by omega
      have HT := Lib.hid (fIdx_none (p := p) (L := L) (by rw [hl.out]; exact H.out))
      go_wp2
      go_ret
      exact ⟨by rw [HT.out]; rfl, hb⟩
theorem l_ContainsNm (A : Option Addr) (n c : Nat) (L : List Nd) (cap : Value) (p : Nd → Bool) (B : Nat) (w : World) (h : NodesAt w B A n c L) (hB : B ≤ w.heap.size)
    (hF : ∀ (W : World) (d : Nd), Below w.heap.size w W → Calls Tryd.prog 58 #[.agg d.cells, cap] W fun e w' => e = .returned (.bool (p d)) ∧ Below W.heap.size W w') :
    Calls Tryd.prog 57 #[.slice A n c, .func (.func 58) #[] #[cap]] w fun e w' => e = .returned (.bool (L.any p)) ∧ Below w.heap.size w w' := by
  have hT := Lib.hid (l_IndexNm A n c L cap p B w h hB hF)
  have hA := Lib.hid (fIdx_any p L)
  clear h hF
  generalize fIdx p L = i at *
  generalize L.any p = b at *
  go_enter Tryd.func57, Tryd.ntmps57
  go_wp2_with fail
  refine hT.out.mono ?_
  rintro e w2 ⟨rfl, b2⟩
  go_wp2
  go_ret
  exact ⟨by rw [← hA.out]; rfl, b2⟩
set_option maxHeartbeats 2000000 in
theorem l_IndexId (A : Option Addr) (n c : Nat) (L : List Nd) (cap : Value) (p : Nd → Bool) (B : Nat) (w : World) (h : NodesAt w B A n c L) (hB : B ≤ w.heap.size)
    (hF : ∀ (W : World) (d : Nd), Below w.heap.size w W → Calls Tryd.prog 86 #[.agg d.cells, cap] W fun e w' => e = .returned (.bool (p d)) ∧ Below W.heap.size W w') :
    Calls Tryd.prog 85 #[.slice A n c, .func (.func 86) #[] #[cap]] w fun e w' => e = .returned (.int .i64 (fIdx p L)) ∧ Below w.heap.size w w' := by
  have hn := h.2.2.1
  have hl := Lib.hid h.1
  have HF := Lib.hid hF
  clear hF
  go_enter Tryd.func85, Tryd.ntmps85
  go_wp2
  go_loopw [8] (fun i wr => ∃ k : Nat, k ≤ n ∧ i = .int .i64 k ∧ Hid (∀ (j : Nat) (e : Nd), j < k → L[j]? = some e → p e = false) ∧ Below w.heap.size w wr) (fun i _ => n - (intOf i).toNat)
  case atStart => exact ⟨0, Nat.zero_le _, rfl, Lib.hid (fun j e hj => by omega), Below.refl _ _⟩
  case round =>
    obtain ⟨k, hk, rfl, H, hb⟩ := hrel
    have zb := hb.size
    by_cases hlt : k < n
    · obtain ⟨ad, d, rfl, hab, hd, cs, -⟩ := h.at_ k hlt
      obtain ⟨c0, c1, c2, c3⟩ := cs.keep (w' := wr) fun p hp => hb.cell (by rw [hp]; omega)
      have hC := Lib.hid (HF.out wr d hb)
      unfold Nd.cells at hC
      have HD := Lib.hid hd
      clear h cs hd
      cases hp : p d
      · have HN := Lib.hid (show ∀ (j : Nat) (e : Nd), j < k + 1 → L[j]? = some e → p e = false from fun j e hj he => by
          by_cases ee : j = k
          · subst ee
            obtain rfl := Option.some.inj (HD.out.symm.trans he)
            exact hp
          · exact H.out j e (by omega) he)
        rw [hp] at hC
        clear hp
        go_wp2_with fail
        refine hC.out.mono ?_
        rintro e w2 ⟨rfl, b2⟩
        have hb2 := hb.trans (b2.mono zb)
        clear c0 c1 c2 c3 b2 hb hC
        go_wp2
        go_roundw
        case rel => exact ⟨k + 1, by omega, by go_num, HN, hb2⟩
        case measure => simp [intOf]; omega
      · have HT := Lib.hid (fIdx_at HD.out hp H.out)
        rw [hp] at hC
        clear hp
        go_wp2_with fail
        refine hC.out.mono ?_
        rintro e w2 ⟨rfl, b2⟩
        have hb2 := hb.trans (b2.mono zb)
        clear c0 c1 c2 c3 b2 hb hC
        go_wp2
        go_ret
        exact ⟨by rw [HT.out]; rfl, hb2⟩
    · obtain rfl : k = n := by omega
      have HT := Lib.hid (fIdx_none (p := p) (L := L) (by rw [hl.out]; exact H.out))
      go_wp2
      go_ret
      exact ⟨by rw [HT.out]; rfl, hb⟩
end Go.Proofs.YtgenfffgenddmaaDoor

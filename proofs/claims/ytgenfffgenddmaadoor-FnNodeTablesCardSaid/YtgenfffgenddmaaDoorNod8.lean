/- ActiveVector, both texts. -/
import Derived.Test.YtgenfffgenddmaaDoorNod7
import Derived.Test.YtgenfffgenddmaaDoorVec
namespace Go.Proofs.YtgenfffgenddmaaDoor
open Go.RowKit
set_option linter.unusedSimpArgs false
set_option linter.unusedVariables false
def av (m : Nat) (d : Nd) : Nat := if d.pv = true then m else setN m d.id.toNat true
def avK (L : List Nd) : Nat → Nat
  | 0 => 0
  | k + 1 => match L[k]? with | some d => av (avK L k) d | none => avK L k
theorem avK_next {L : List Nd} {k m : Nat} {d : Nd} (h : avK L k = m) (hd : L[k]? = some d) : avK L (k + 1) = av m d := by simp [avK, h, hd]
theorem av_lt {m : Nat} {d : Nd} (h : m < 4294967296) (hd : 0 ≤ d.id ∧ d.id ≤ 31) : av m d < 4294967296 := by
  unfold av
  split
  · exact h
  · exact setN_lt m _ true h (by omega)
def avOut (L : List Nd) : Int × Int := if ntOk L = true then ((avK L L.length : Nat), 0) else (0, 1)
theorem avOut_no {L : List Nd} (h : ntOk L = false) : avOut L = (0, 1) := by simp [avOut, h]
theorem avOut_v {L : List Nd} {n : Nat} (hl : L.length = n) (h : ntOk L = true) : avOut L = (((avK L n : Nat) : Int), 0) := by
  subst hl; unfold avOut; rw [if_pos h]
set_option maxHeartbeats 1000000 in
theorem s_l10Active (A : Option Addr) (n c : Nat) (L : List Nd) (B : Nat) (w : World) (h : NodesAt w B A n c L) (hB : B ≤ w.heap.size) (hD : Hid (∀ (k : Nat) (d : Nd), L[k]? = some d → 0 ≤ d.id ∧ d.id ≤ 31)) :
    Calls Tryd.prog 60 #[.slice A n c] w fun e w' => e = .returned (.int .i64 (avK L n : Nat)) ∧ w = w' := by
  have hn := h.2.2.1
  have hl := h.1
  go_enter Tryd.func60, Tryd.ntmps60
  go_wp2
  go_loopw [3, 4] (fun a i wr => ∃ (k m : Nat), k ≤ n ∧ i = .int .i64 k ∧ a = .int .i64 m ∧ m < 4294967296 ∧ Hid (avK L k = m) ∧ wr = w) (fun _ i _ => n - (intOf i).toNat)
  case atStart => exact ⟨0, 0, Nat.zero_le _, rfl, rfl, by omega, Lib.hid rfl, rfl⟩
  case round =>
    obtain ⟨k, m, hk, rfl, rfl, hm, H, rfl⟩ := hrel
    by_cases hlt : k < n
    · obtain ⟨ad, d, rfl, hab, hd, cs, -⟩ := h.at_ k hlt
      obtain ⟨c0, c1, c2, c3⟩ := cs
      have HN := Lib.hid (avK_next H.out hd)
      obtain ⟨r0, r1⟩ := hD.out k d hd
      have hlt2 := av_lt hm ⟨r0, r1⟩
      clear hd h hD H
      obtain ⟨i, s, r, pv⟩ := d
      obtain ⟨j, rfl⟩ : ∃ j : Nat, i = j := ⟨i.toNat, by simp only at r0; omega⟩
      simp only at c0 c1 c2 c3 r0 r1
      have hj : j ≤ 31 := by omega
      have k0 : (0 : Int) ≤ (k : Int) := by omega
      have k1 : (k : Int) < (n : Int) := by omega
      cases pv
      · have HN2 := Lib.hid (HN.out.trans (show av m ⟨(j : Int), s, r, false⟩ = setN m j true by simp [av]))
        rw [← HN.out, HN2.out] at hlt2
        have hC := Lib.hid (fun W => s_l05Set m j true W hm hj)
        generalize setN m j true = m2 at *
        clear HN
        go_wp2_with (go_at_call 87; refine (hC.out _).mono ?_; rintro e w' ⟨rfl, rfl⟩)
        go_roundw
        case rel => exact ⟨k + 1, m2, by omega, by go_num, rfl, hlt2, HN2, trivial⟩
        case measure => simp [intOf]; omega
      · have HN2 := Lib.hid (HN.out.trans (show av m ⟨(j : Int), s, r, true⟩ = m from rfl))
        go_wp2
        go_roundw
        case rel => exact ⟨k + 1, m, by omega, by go_num, rfl, hm, HN2, trivial⟩
        case measure => simp [intOf]; omega
    · obtain rfl : k = n := by omega
      clear h hD
      go_wp2
      go_ret
      exact ⟨by rw [H.out]; rfl, rfl⟩
set_option maxHeartbeats 1000000 in
theorem i_activeVector (A : Option Addr) (n c : Nat) (L : List Nd) (B : Nat) (w : World) (h : NodesAt w B A n c L) (hB : B ≤ w.heap.size) (hD : Hid (∀ (k : Nat) (d : Nd), L[k]? = some d → 0 ≤ d.id ∧ d.id ≤ 31)) :
    Calls Tryd.prog 61 #[.slice A n c] w fun e w' => e = .returned (.int .i64 (avK L n : Nat)) ∧ Below w.heap.size w w' := by
  have hn := h.2.2.1
  have hl := h.1
  go_enter Tryd.func61, Tryd.ntmps61
  go_wp2
  go_loopw [3, 8] (fun a i wr => ∃ (k m : Nat), k ≤ n ∧ i = .int .i64 k ∧ a = .int .i64 m ∧ m < 4294967296 ∧ Hid (avK L k = m) ∧ Below w.heap.size w wr) (fun _ i _ => n - (intOf i).toNat)
  case atStart => exact ⟨0, 0, Nat.zero_le _, rfl, rfl, by omega, Lib.hid rfl, Below.refl _ _⟩
  case round =>
    obtain ⟨k, m, hk, rfl, rfl, hm, H, hb⟩ := hrel
    have zb := hb.size
    by_cases hlt : k < n
    · obtain ⟨ad, d, rfl, hab, hd, cs, -⟩ := h.at_ k hlt
      obtain ⟨c0, c1, c2, c3⟩ := cs.keep (w' := wr) fun p hp => hb.cell (by rw [hp]; omega)
      have hb1 := hb.alloc zb (.cells d.cells 36)
      have R1 := heap_alloc_new wr (.cells d.cells 36)
      have HN := Lib.hid (avK_next H.out hd)
      obtain ⟨r0, r1⟩ := hD.out k d hd
      have hlt2 := av_lt hm ⟨r0, r1⟩
      clear cs hd h hD H hb
      obtain ⟨i, s, r, pv⟩ := d
      obtain ⟨j, rfl⟩ : ∃ j : Nat, i = j := ⟨i.toNat, by simp only at r0; omega⟩
      simp only [Nd.cells] at hb1 R1 c0 c1 c2 c3 r0 r1
      have hj : j ≤ 31 := by omega
      go_upto_region 5 with fail
      obtain ⟨q0, q1, q2, q3⟩ := cells4 R1
      generalize World.alloc _ _ = W at *
      generalize wr.heap.size = g at *
      clear c0 c1 c2 c3
      cases pv
      · have HN2 := Lib.hid (HN.out.trans (show av m ⟨(j : Int), s, r, false⟩ = setN m j true by simp [av]))
        rw [← HN.out, HN2.out] at hlt2
        have Hor := Lib.hid (or_set m j hm hj)
        go_wp2
        go_roundw
        case rel => exact ⟨k + 1, setN m j true, by omega, by go_num, by rw [← Hor.out], hlt2, HN2, hb1⟩
        case measure => simp [intOf]; omega
      · have HN2 := Lib.hid (HN.out.trans (show av m ⟨(j : Int), s, r, true⟩ = m from rfl))
        go_wp2
        go_roundw
        case rel => exact ⟨k + 1, m, by omega, by go_num, rfl, hm, HN2, hb1⟩
        case measure => simp [intOf]; omega
    · obtain rfl : k = n := by omega
      clear h hD
      go_wp2
      go_ret
      exact ⟨by rw [H.out]; rfl, hb⟩
theorem s_ActiveVector (A : Option Addr) (n c : Nat) (L : List Nd) (B : Nat) (w : World) (h : NodesAt w B A n c L) (hB : B ≤ w.heap.size) :
    Calls Tryd.prog 31 #[.slice A n c] w fun e w' => e = .returned (.tuple #[.int .i64 (avOut L).1, .int .i64 (avOut L).2]) ∧ Below w.heap.size w w' := by
  have hl := h.1
  have hT := Lib.hid (s_IsNodeTable A n c L B w h hB)
  cases ho : ntOk L
  · have hX := Lib.hid (avOut_no ho)
    rw [ho] at hT
    clear ho hl h
    go_enter Tryd.func31, Tryd.ntmps31
    go_wp2_with fail
    refine hT.out.mono ?_
    rintro e w1 ⟨rfl, b1⟩
    go_wp2
    go_ret2
    exact ⟨by rw [hX.out]; rfl, b1⟩
  rw [ho] at hT
  have hX := Lib.hid (avOut_v hl ho)
  have hD := Lib.hid (fun (k : Nat) (d : Nd) hd => (ndOk_rng (ntOk_nd (k := k) (d := d) ho hd)).1)
  have hV := Lib.hid (fun (W : World) (hw : Below w.heap.size w W) => s_l10Active A n c L B W (h.below' hB hw) (Nat.le_trans hB hw.size) hD)
  clear ho hl h hD
  go_enter Tryd.func31, Tryd.ntmps31
  go_wp2_with fail
  refine hT.out.mono ?_
  rintro e w1 ⟨rfl, b1⟩
  have hV1 := Lib.hid (hV.out w1 b1)
  clear hV hT
  generalize avK L n = q at *
  go_wp2_with (go_at_call 60; refine hV1.out.mono ?_; rintro e w' ⟨rfl, rfl⟩)
  go_ret2
  exact ⟨by rw [hX.out]; rfl, b1⟩
theorem i_ActiveVector (A : Option Addr) (n c : Nat) (L : List Nd) (B : Nat) (w : World) (h : NodesAt w B A n c L) (hB : B ≤ w.heap.size) :
    Calls Tryd.prog 32 #[.slice A n c] w fun e w' => e = .returned (.tuple #[.int .i64 (avOut L).1, .int .i64 (avOut L).2]) ∧ Below w.heap.size w w' := by
  have hl := h.1
  have hT := Lib.hid (i_IsNodeTable A n c L B w h hB)
  cases ho : ntOk L
  · have hX := Lib.hid (avOut_no ho)
    rw [ho] at hT
    clear ho hl h
    go_enter Tryd.func32, Tryd.ntmps32
    go_wp2_with fail
    refine hT.out.mono ?_
    rintro e w1 ⟨rfl, b1⟩
    go_wp2
    go_ret2
    exact ⟨by rw [hX.out]; rfl, b1⟩
  rw [ho] at hT
  have hX := Lib.hid (avOut_v hl ho)
  have hD := Lib.hid (fun (k : Nat) (d : Nd) hd => (ndOk_rng (ntOk_nd (k := k) (d := d) ho hd)).1)
  have hV := Lib.hid (fun (W : World) (hw : Below w.heap.size w W) => i_activeVector A n c L B W (h.below' hB hw) (Nat.le_trans hB hw.size) hD)
  clear ho hl h hD
  go_enter Tryd.func32, Tryd.ntmps32
  go_wp2_with fail
  refine hT.out.mono ?_
  rintro e w1 ⟨rfl, b1⟩
  have hV1 := Lib.hid (hV.out w1 b1)
  clear hV hT
  generalize avK L n = q at *
  go_wp2_with (go_at_call 61; refine hV1.out.mono ?_; rintro e w2 ⟨rfl, b2⟩)
  go_ret2
  exact ⟨by rw [hX.out]; rfl, b1.trans (b2.mono b1.size)⟩
end Go.Proofs.YtgenfffgenddmaaDoor

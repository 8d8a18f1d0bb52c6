/- FindNode, both texts. -/
import Derived.Test.YtgenfffgenddmaaDoorNod7
namespace Go.Proofs.YtgenfffgenddmaaDoor
open Go.RowKit
set_option linter.unusedSimpArgs false
set_option linter.unusedVariables false
theorem fro4 {w : World} {g : Nat} {a b c d : Value} {t : TypeId} (h : w.heap[g]? = some (.cells #[a, b, c, d] t (0, 0))) :
    w.frozen? ⟨g, 0, none⟩ = false ∧ w.frozen? ⟨g, 1, none⟩ = false ∧ w.frozen? ⟨g, 2, none⟩ = false ∧ w.frozen? ⟨g, 3, none⟩ = false := by
  simp [World.frozen?, h]
theorem set4 {w : World} {g : Nat} {a b c d : Value} {t : TypeId} (h : w.heap[g]? = some (.cells #[a, b, c, d] t (0, 0))) (v0 v1 v2 v3 : Value) :
    ∃ W, (((w.setCell ⟨g, 0, none⟩ v0).setCell ⟨g, 1, none⟩ v1).setCell ⟨g, 2, none⟩ v2).setCell ⟨g, 3, none⟩ v3 = W ∧ W.heap[g]? = some (.cells #[v0, v1, v2, v3] t (0, 0)) ∧ Below g w W ∧ W.heap.size = w.heap.size := by
  have hg : g < w.heap.size := by
    rcases Nat.lt_or_ge g w.heap.size with hlt | hge
    · exact hlt
    · rw [Array.getElem?_eq_none hge] at h; cases h
  refine ⟨_, rfl, ?_, ((((Below.refl g w).setCell (p := ⟨g, 0, none⟩) (Nat.le_refl _) _).setCell (p := ⟨g, 1, none⟩) (Nat.le_refl _) _).setCell (p := ⟨g, 2, none⟩) (Nat.le_refl _) _).setCell (p := ⟨g, 3, none⟩) (Nat.le_refl _) _, by simp [World.setCell]⟩
  simp [World.setCell, Array.getElem?_modify, h]
def nd0 : Nd := ⟨0, ⟨#[]⟩, 0, false⟩
def fnP (y : Int) (d : Nd) : Bool := d.id == y
def fnOut (L : List Nd) (y : Int) : Nd × Int := if ntOk L = true then (match L[(fIdx (fnP y) L).toNat]? with | some d => if 0 ≤ fIdx (fnP y) L then (d, 0) else (nd0, 4) | none => (nd0, 4)) else (nd0, 1)
theorem fnOut_no {L : List Nd} {y : Int} (h : ntOk L = false) : fnOut L y = (nd0, 1) := by simp [fnOut, h]
theorem fnOut_none {L : List Nd} {y : Int} (h : ntOk L = true) (hi : fIdx (fnP y) L < 0) : fnOut L y = (nd0, 4) := by
  unfold fnOut
  rw [if_pos h]
  split
  · rw [if_neg (by omega)]
  · rfl
theorem fnOut_at {L : List Nd} {y : Int} {k : Nat} {d : Nd} (h : ntOk L = true) (hi : fIdx (fnP y) L = k) (hd : L[k]? = some d) : fnOut L y = (d, 0) := by
  unfold fnOut
  rw [if_pos h, hi]
  simp only [Int.toNat_natCast, hd]
  rw [if_pos (by omega)]
theorem fIdx_cases (p : Nd → Bool) (L : List Nd) : fIdx p L = -1 ∨ ∃ k : Nat, fIdx p L = k ∧ k < L.length := by
  unfold fIdx
  cases h : L.findIdx? p with
  | none => exact .inl rfl
  | some k => exact .inr ⟨k, rfl, (List.findIdx?_eq_some_iff_getElem.1 h).1⟩
def fnVal (d : Nd) (c : Int) : Value := .tuple #[.agg d.cells, .int .i64 c]
theorem fnVal_0 (c : Int) : fnVal nd0 c = .tuple #[.agg #[.int .i64 0, .string ⟨#[]⟩, .int .i64 0, .bool false], .int .i64 c] := rfl
theorem fnVal_d (i : Int) (s : ByteArray) (r : Int) (p : Bool) (c : Int) : fnVal ⟨i, s, r, p⟩ c = .tuple #[.agg #[.int .i64 i, .string s, .int .i64 r, .bool p], .int .i64 c] := rfl
set_option maxHeartbeats 2000000 in
theorem s_FindNode (A : Option Addr) (n c : Nat) (L : List Nd) (y : Int) (B : Nat) (w : World) (h : NodesAt w B A n c L) (hB : B ≤ w.heap.size) :
    Calls Tryd.prog 28 #[.slice A n c, .int .i64 y] w fun e w' => e = .returned (fnVal (fnOut L y).1 (fnOut L y).2) ∧ Below w.heap.size w w' := by
  have hn := h.2.2.1
  have hnc := h.2.1
  have hl := h.1
  have R0 := heap_alloc_new w (.cells #[.int .i64 0, .string ⟨#[]⟩, .int .i64 0, .bool false] 36)
  have B0 := (Below.refl w.heap.size w).alloc (Nat.le_refl _) (.cells #[.int .i64 0, .string ⟨#[]⟩, .int .i64 0, .bool false] 36)
  have z0 : w.heap.size < (w.alloc (.cells #[.int .i64 0, .string ⟨#[]⟩, .int .i64 0, .bool false] 36)).heap.size := by simp
  have H0 := h.below' hB B0
  have hT := Lib.hid (s_IsNodeTable A n c L B _ H0 (by omega))
  generalize hW : w.alloc (.cells #[.int .i64 0, .string ⟨#[]⟩, .int .i64 0, .bool false] 36) = W at *
  have HW := Lib.hid hW
  clear hW h
  generalize hg : w.heap.size = g at *
  have HG := Lib.hid hg
  clear hg
  cases ho : ntOk L
  · have hX := Lib.hid (fnOut_no (y := y) ho)
    rw [ho] at hT
    clear ho hl H0
    go_enter Tryd.func28, Tryd.ntmps28
    go_upto_region 1 with fail
    rw [HW.out, HG.out]
    go_wp2_with fail
    refine hT.out.mono ?_
    rintro e w1 ⟨rfl, b1⟩
    have R1 := (b1.block g z0).trans R0
    have B1 : Below g w w1 := B0.trans (b1.mono (by omega))
    obtain ⟨c0, c1, c2, c3⟩ := cells4 R1
    obtain ⟨f0, f1, f2, f3⟩ := fro4 R1
    obtain ⟨W2, e2, R2, b2, z2⟩ := set4 R1 (.int .i64 0) (.string ⟨#[]⟩) (.int .i64 0) (.bool false)
    have E2 := Lib.hid e2
    clear e2 R0 R1 hT
    go_wp2
    rw [E2.out]
    obtain ⟨d0, d1, d2, d3⟩ := cells4 R2
    clear R2 c0 c1 c2 c3 f0 f1 f2 f3
    exact bodyPost_ret (v := .tuple #[.agg #[.int .i64 0, .string ⟨#[]⟩, .int .i64 0, .bool false], .int .i64 1]) (by simp [results, Tryd.results28, go_sem, d0, d1, d2, d3]) rfl ⟨by rw [hX.out]; rfl, B1.trans b2⟩
  rw [ho] at hT
  have hX := Lib.hid (fun hi => fnOut_none (y := y) ho hi)
  have hY := Lib.hid (fun k d hi hd => fnOut_at (y := y) (k := k) (d := d) ho hi hd)
  have hFN := Lib.hid (fun hb => fIdx_none (p := fnP y) (L := L) hb)
  have hFA := Lib.hid (fun k d hd hp hb => fIdx_at (p := fnP y) (L := L) (k := k) (d := d) hd hp hb)
  clear ho
  go_enter Tryd.func28, Tryd.ntmps28
  go_upto_region 1 with fail
  rw [HW.out, HG.out]
  go_wp2_with fail
  refine hT.out.mono ?_
  rintro e w1 ⟨rfl, b1⟩
  have R1 := (b1.block g z0).trans R0
  have B1 : Below g w w1 := B0.trans (b1.mono (by omega))
  have H1 := H0.below' (by omega) b1
  clear hT R0 H0 B0 b1
  go_wp2
  go_loopw [6] (fun i wr => ∃ (k : Nat), k ≤ n ∧ i = .int .i64 k ∧ Hid (∀ (j : Nat) (e : Nd), j < k → L[j]? = some e → fnP y e = false) ∧ wr = w1) (fun i _ => n - (intOf i).toNat)
  case atStart => exact ⟨0, Nat.zero_le _, rfl, Lib.hid (fun j e hj => by omega), rfl⟩
  case round =>
    obtain ⟨k, hk, rfl, H, rfl⟩ := hrel
    by_cases hlt : k < n
    · obtain ⟨ad, d, rfl, hab, hd, cs, -⟩ := H1.at_ k hlt
      obtain ⟨q0, q1, q2, q3⟩ := cs
      have HD := Lib.hid hd
      clear H1 hd
      have k0 : (0 : Int) ≤ (k : Int) := by omega
      have k1 : (k : Int) < (n : Int) := by omega
      cases hp : fnP y d
      · have HN := Lib.hid (show ∀ (j : Nat) (e : Nd), j < k + 1 → L[j]? = some e → fnP y e = false from fun j e hj he => by
          by_cases ee : j = k
          · subst ee
            obtain rfl := Option.some.inj (HD.out.symm.trans he)
            exact hp
          · exact H.out j e (by omega) he)
        have hp' : (d.id == y) = false := hp
        clear hp R1
        obtain ⟨i, s, r, pv⟩ := d
        simp only at q0 q1 q2 q3 hp'
        go_wp2
        go_roundw
        case rel => exact ⟨k + 1, by omega, by go_num, HN, trivial⟩
        case measure => simp [intOf]; omega
      · have HT := Lib.hid (hY.out k d (hFA.out k d HD.out hp H.out) HD.out)
        have hp' : (d.id == y) = true := hp
        clear hp hX hY hFN hFA H HD
        obtain ⟨i, s, r, pv⟩ := d
        obtain ⟨f0, f1, f2, f3⟩ := fro4 R1
        obtain ⟨c0, c1, c2, c3⟩ := cells4 R1
        obtain ⟨W2, e2, R2, b2, z2⟩ := set4 R1 (.int .i64 i) (.string s) (.int .i64 r) (.bool pv)
        have E2 := Lib.hid e2
        clear e2 R1
        simp only at q0 q1 q2 q3 hp'
        go_wp2
        rw [E2.out]
        obtain ⟨d0, d1, d2, d3⟩ := cells4 R2
        clear R2 c0 c1 c2 c3 f0 f1 f2 f3 q0 q1 q2 q3
        exact bodyPost_ret (v := .tuple #[.agg #[.int .i64 i, .string s, .int .i64 r, .bool pv], .int .i64 0]) (by simp [results, Tryd.results28, go_sem, d0, d1, d2, d3]) rfl ⟨by rw [HT.out]; rfl, B1.trans b2⟩
    · obtain rfl : k = n := by omega
      have HT := Lib.hid (hX.out (by rw [hFN.out (fun j e hj he => H.out j e (by omega) he)]; omega))
      clear hX hY hFN hFA H H1
      obtain ⟨c0, c1, c2, c3⟩ := cells4 R1
      obtain ⟨f0, f1, f2, f3⟩ := fro4 R1
      obtain ⟨W2, e2, R2, b2, z2⟩ := set4 R1 (.int .i64 0) (.string ⟨#[]⟩) (.int .i64 0) (.bool false)
      have E2 := Lib.hid e2
      clear e2 R1
      go_wp2
      rw [E2.out]
      obtain ⟨d0, d1, d2, d3⟩ := cells4 R2
      clear R2 c0 c1 c2 c3 f0 f1 f2 f3
      exact bodyPost_ret (v := .tuple #[.agg #[.int .i64 0, .string ⟨#[]⟩, .int .i64 0, .bool false], .int .i64 4]) (by simp [results, Tryd.results28, go_sem, d0, d1, d2, d3]) rfl ⟨by rw [HT.out]; rfl, B1.trans b2⟩
theorem i_fnClos (d : Nd) (g : Nat) (y : Int) (w : World) (hg : g < w.heap.size) (h : w.cell? ⟨g, 0, none⟩ = some (.int .i64 y)) :
    Calls Tryd.prog 86 #[.agg d.cells, .pointer (some ⟨g, 0, none⟩)] w fun e w' => e = .returned (.bool (fnP y d)) ∧ Below w.heap.size w w' := by
  obtain ⟨i, s, r, p⟩ := d
  unfold Nd.cells
  have hs := Lib.hid (show fnP y ⟨i, s, r, p⟩ = (i == y) from rfl)
  have hn : g ≠ w.heap.size := by omega
  go_enter Tryd.func86, Tryd.ntmps86
  go_wp2
  go_ret
  exact ⟨by rw [hs.out]; rfl, (Below.refl _ _).alloc (Nat.le_refl _) _⟩
theorem i_findNode (A : Option Addr) (n c : Nat) (L : List Nd) (y : Int) (B : Nat) (w : World) (h : NodesAt w B A n c L) (hB : B ≤ w.heap.size) :
    Calls Tryd.prog 59 #[.slice A n c, .int .i64 y] w fun e w' => e = .returned (.int .i64 (fIdx (fnP y) L)) ∧ Below w.heap.size w w' := by
  have R0 := heap_alloc_new w (.cells #[.int .i64 y] 2)
  have B0 := (Below.refl w.heap.size w).alloc (Nat.le_refl _) (.cells #[.int .i64 y] 2)
  have z0 : w.heap.size < (w.alloc (.cells #[.int .i64 y] 2)).heap.size := by simp
  have H0 := h.below' hB B0
  generalize hW : w.alloc (.cells #[.int .i64 y] 2) = W at *
  have HW := Lib.hid hW
  have C0 : W.cell? ⟨w.heap.size, 0, none⟩ = some (.int .i64 y) := by simp [World.cell?, R0]
  have hT := Lib.hid (l_IndexId A n c L (.pointer (some ⟨w.heap.size, 0, none⟩)) (fnP y) B W H0 (by omega) (fun W' d b => i_fnClos d w.heap.size y W' (by have := b.size; omega) ((b.cell (p := ⟨w.heap.size, 0, none⟩) z0).trans C0)))
  generalize fIdx (fnP y) L = x at *
  clear hW h H0 C0 R0
  go_enter Tryd.func59, Tryd.ntmps59
  go_upto_region 1 with fail
  rw [HW.out]
  go_wp2_with fail
  refine hT.out.mono ?_
  rintro e w1 ⟨rfl, b1⟩
  go_wp2
  go_ret
  exact ⟨rfl, B0.trans (b1.mono (by omega))⟩
set_option maxHeartbeats 2000000 in
theorem i_FindNode (A : Option Addr) (n c : Nat) (L : List Nd) (y : Int) (B : Nat) (w : World) (h : NodesAt w B A n c L) (hB : B ≤ w.heap.size) :
    Calls Tryd.prog 29 #[.slice A n c, .int .i64 y] w fun e w' => e = .returned (fnVal (fnOut L y).1 (fnOut L y).2) ∧ Below w.heap.size w w' := by
  have hn := h.2.2.1
  have hnc := h.2.1
  have hl := h.1
  have R0 := heap_alloc_new w (.cells #[.int .i64 0, .string ⟨#[]⟩, .int .i64 0, .bool false] 36)
  have B0 := (Below.refl w.heap.size w).alloc (Nat.le_refl _) (.cells #[.int .i64 0, .string ⟨#[]⟩, .int .i64 0, .bool false] 36)
  have z0 : w.heap.size < (w.alloc (.cells #[.int .i64 0, .string ⟨#[]⟩, .int .i64 0, .bool false] 36)).heap.size := by simp
  have H0 := h.below' hB B0
  have hT := Lib.hid (i_IsNodeTable A n c L B _ H0 (by omega))
  generalize hW : w.alloc (.cells #[.int .i64 0, .string ⟨#[]⟩, .int .i64 0, .bool false] 36) = W at *
  have HW := Lib.hid hW
  clear hW h
  generalize hg : w.heap.size = g at *
  have HG := Lib.hid hg
  clear hg
  cases ho : ntOk L
  · have hX := Lib.hid (fnOut_no (y := y) ho)
    rw [ho] at hT
    clear ho hl H0
    go_enter Tryd.func29, Tryd.ntmps29
    go_upto_region 1 with fail
    rw [HW.out, HG.out]
    go_wp2_with fail
    refine hT.out.mono ?_
    rintro e w1 ⟨rfl, b1⟩
    have R1 := (b1.block g z0).trans R0
    have B1 : Below g w w1 := B0.trans (b1.mono (by omega))
    obtain ⟨c0, c1, c2, c3⟩ := cells4 R1
    obtain ⟨f0, f1, f2, f3⟩ := fro4 R1
    obtain ⟨W2, e2, R2, b2, z2⟩ := set4 R1 (.int .i64 0) (.string ⟨#[]⟩) (.int .i64 0) (.bool false)
    have E2 := Lib.hid e2
    clear e2 R0 R1 hT
    go_wp2
    rw [E2.out]
    obtain ⟨d0, d1, d2, d3⟩ := cells4 R2
    clear R2 c0 c1 c2 c3 f0 f1 f2 f3
    exact bodyPost_ret (v := .tuple #[.agg #[.int .i64 0, .string ⟨#[]⟩, .int .i64 0, .bool false], .int .i64 1]) (by simp [results, Tryd.results29, go_sem, d0, d1, d2, d3]) rfl ⟨by rw [hX.out]; rfl, B1.trans b2⟩
  rw [ho] at hT
  have hX := Lib.hid (fun hi => fnOut_none (y := y) ho hi)
  have hY := Lib.hid (fun k d hi hd => fnOut_at (y := y) (k := k) (d := d) ho hi hd)
  have hFC := fIdx_cases (fnP y) L
  clear ho
  go_enter Tryd.func29, Tryd.ntmps29
  go_upto_region 1 with fail
  rw [HW.out, HG.out]
  go_wp2_with fail
  refine hT.out.mono ?_
  rintro e w1 ⟨rfl, b1⟩
  have R1 := (b1.block g z0).trans R0
  have B1 : Below g w w1 := B0.trans (b1.mono (by omega))
  have H1 := H0.below' (by omega) b1
  have y1 := b1.size
  have hF := Lib.hid (i_findNode A n c L y B w1 H1 (by omega))
  generalize fIdx (fnP y) L = x at *
  clear hT R0 H0 B0 b1
  go_wp2_with fail
  refine hF.out.mono ?_
  rintro e w2 ⟨rfl, b2⟩
  have R2 := (b2.block g (by omega)).trans R1
  have B2 : Below g w w2 := B1.trans (b2.mono (by omega))
  have H2 := H1.below' (by omega) b2
  obtain ⟨c0, c1, c2, c3⟩ := cells4 R2
  obtain ⟨f0, f1, f2, f3⟩ := fro4 R2
  clear R1 B1 H1 hF b2 y1 z0
  rcases hFC with rfl | ⟨k, rfl, hk⟩
  · have HT := Lib.hid (hX.out (by omega))
    clear hX hY H2
    obtain ⟨W3, e3, R3, b3, z3⟩ := set4 R2 (.int .i64 0) (.string ⟨#[]⟩) (.int .i64 0) (.bool false)
    have E3 := Lib.hid e3
    clear e3 R2
    go_wp2
    rw [E3.out]
    obtain ⟨d0, d1, d2, d3⟩ := cells4 R3
    clear R3 c0 c1 c2 c3 f0 f1 f2 f3
    exact bodyPost_ret (v := .tuple #[.agg #[.int .i64 0, .string ⟨#[]⟩, .int .i64 0, .bool false], .int .i64 4]) (by simp [results, Tryd.results29, go_sem, d0, d1, d2, d3]) rfl ⟨by rw [HT.out]; rfl, B2.trans b3⟩
  · obtain ⟨ad, d, rfl, hab, hd, cs, -⟩ := H2.at_ k (by omega)
    have HT := Lib.hid (hY.out k d rfl hd)
    have k0 : (0 : Int) ≤ (k : Int) := by omega
    have k1 : (k : Int) < (n : Int) := by omega
    have k2 : ¬ (k : Int) < 0 := by omega
    have k3 : decide ((k : Int) < 0) = false := by simp
    obtain ⟨q0, q1, q2, q3⟩ := cs
    clear hX hY H2 hd
    obtain ⟨i, s, r, pv⟩ := d
    obtain ⟨W3, e3, R3, b3, z3⟩ := set4 R2 (.int .i64 i) (.string s) (.int .i64 r) (.bool pv)
    have E3 := Lib.hid e3
    clear e3 R2
    simp only at q0 q1 q2 q3
    go_wp2
    rw [E3.out]
    obtain ⟨d0, d1, d2, d3⟩ := cells4 R3
    clear R3 c0 c1 c2 c3 f0 f1 f2 f3 q0 q1 q2 q3
    exact bodyPost_ret (v := .tuple #[.agg #[.int .i64 i, .string s, .int .i64 r, .bool pv], .int .i64 0]) (by simp [results, Tryd.results29, go_sem, d0, d1, d2, d3]) rfl ⟨by rw [HT.out]; rfl, B2.trans b3⟩
end Go.Proofs.YtgenfffgenddmaaDoor

/- The program's reader of a node table. -/
import Derived.Test.YtgenfffgenddmaaDoorCur3
import Derived.Test.YtgenfffgenddmaaDoorSRd
import Derived.Test.YtgenfffgenddmaaDoorIRdP
namespace Go.Proofs.YtgenfffgenddmaaDoor
open Go.RowKit
set_option linter.unusedSimpArgs false
set_option linter.unusedVariables false
def NcPost (g : Nat) (A : Option Addr) (n c q : Nat) (xs : List Int) (w : World) (e : Ending) (w' : World) : Prop :=
  e = .returned (.int .i64 (xs.getD q 0)) ∧ CurAt w' g A n c (min (q + 1) n) (decide (n < q + 1)) ∧ w.grownBy w' (some g)
/-- next, told by the place that is asked for. -/
theorem i_nextC (g : Nat) (A : Option Addr) (n c q : Nat) (xs : List Int) (B : Nat) (w : World) (h : CurAt w g A n c (min q n) (decide (n < q))) (hI : IntsAt w B A n c xs) (hBg : B ≤ g) :
    Calls Tryd.prog 75 #[.pointer (some ⟨g, 0, none⟩)] w (NcPost g A n c q xs w) :=
  (i_next g A n c _ _ xs B w h hI hBg (Nat.min_le_right _ _)).mono fun e w' hh => by
    obtain ⟨h1, h2, h3⟩ := hh
    have hl := hI.len
    refine ⟨?_, ?_, h3⟩
    · rw [h1]
      have : nxV xs (min q n) = xs.getD q 0 := by
        unfold nxV
        by_cases hq : q < n
        · rw [Nat.min_eq_left (by omega), if_pos (by omega)]
        · rw [Nat.min_eq_right (by omega), if_neg (by omega), List.getD_eq_getElem?_getD, List.getElem?_eq_none (by omega)]; rfl
      rw [this]
    · by_cases hq : q < n
      · rw [Nat.min_eq_left (by omega : q ≤ n), if_pos hq] at h2
        rw [Nat.min_eq_left (by omega : q + 1 ≤ n), show decide (n < q + 1) = false by simp; omega]
        rw [show decide (n < q) = false by simp; omega, show decide (q = n) = false by simp; omega] at h2
        exact h2
      · rw [Nat.min_eq_right (by omega : n ≤ q), if_neg (by omega)] at h2
        rw [Nat.min_eq_right (by omega : n ≤ q + 1), show decide (n < q + 1) = true by simp; omega]
        rw [show decide (n = n) = true by simp, Bool.or_true] at h2
        exact h2
/-- What is known while the table is read. -/
structure RI (w : World) (g : Nat) (A : Option Addr) (n c : Nat) (W : World) (v : Value) (L : List Nd) (p : Nat) (past : Bool) : Prop where
  cur : CurAt W g A n c p past
  own : NOwn W w.heap.size v L
  ne : v.ownBlock ≠ some g
  bel : Below w.heap.size w W
section
variable {w W W' : World} {g n c p p' x : Nat} {A : Option Addr} {v v' : Value} {L L' : List Nd} {past past' : Bool} {o : Obj}
theorem CurAt.lt (h : CurAt W g A n c p past) : g < W.heap.size := by
  rcases Nat.lt_or_ge g W.heap.size with hlt | hge
  · exact hlt
  · unfold CurAt at h; rw [Array.getElem?_eq_none hge] at h; cases h
theorem RI.next (h : RI w g A n c W v L p past) (hg : w.heap.size ≤ g) (k : W.grownBy W' (some g)) (hc : CurAt W' g A n c p' past') : RI w g A n c W' v L p' past' :=
  ⟨hc, World.ownsRow.kept h.own k (.inr h.ne), h.ne, h.bel.grown k h.bel.size (fun j hj => by injection hj with hj; omega)⟩
theorem RI.other (h : RI w g A n c W v L p past) (k : W.grownBy W' (some x)) (hx : w.heap.size ≤ x) (hxg : x ≠ g) (hv : v.ownBlock ≠ some x) : RI w g A n c W' v L p past :=
  ⟨by unfold CurAt; rw [k.block g h.cur.lt (fun e => by injection e with e; omega)]; exact h.cur, World.ownsRow.kept h.own k (.inr hv), h.ne, h.bel.grown k h.bel.size (fun j hj => by injection hj with hj; omega)⟩
theorem RI.below (h : RI w g A n c W v L p past) (hb : Below W.heap.size W W') : RI w g A n c W' v L p past :=
  ⟨by unfold CurAt; rw [hb.block g h.cur.lt]; exact h.cur, h.own.below_ hb, h.ne, h.bel.trans (hb.mono h.bel.size)⟩
theorem RI.app (h : RI w g A n c W v L p past) (k : (W.alloc o).grownBy W' v.ownBlock) (hO : NOwn W' w.heap.size v' L') (hv : v'.ownBlock = v.ownBlock ∨ v'.ownBlock = some (W.alloc o).heap.size) : RI w g A n c W' v' L' p past := by
  have hlt := h.cur.lt
  refine ⟨?_, hO, ?_, (h.bel.alloc h.bel.size o).grown k (by rw [World.size_alloc]; exact Nat.le_succ_of_le h.bel.size) (fun j hj => (h.own.lt j hj).1)⟩
  · unfold CurAt
    rw [k.block g (by rw [World.size_alloc]; omega) (fun e => h.ne e.symm), Below.heap_alloc _ _ _ hlt]
    exact h.cur
  · rcases hv with e | e
    · rw [e]; exact h.ne
    · rw [e, World.size_alloc]; intro e'; injection e' with e'; omega
end
theorem ri_start (w : World) (A : Option Addr) (n c : Nat) :
    RI w w.heap.size A n c ((w.alloc (.cells #[.slice A n c, .int .i64 0, .bool false] 82)).alloc (.cells #[] 36)) (.slice (some ⟨w.heap.size + 1, 0, none⟩) 0 0) [] 0 false := by
  refine ⟨?_, ?_, ?_, (((Below.refl _ _).alloc (Nat.le_refl _) _).alloc (by rw [World.size_alloc]; omega) _)⟩
  · unfold CurAt
    rw [Below.heap_alloc _ _ _ (by rw [World.size_alloc]; omega)]
    exact heap_alloc_new w _
  · have := World.ownsRow_lit (e := 36) (size := 4) (base := w.heap.size) (w.alloc (.cells #[.slice A n c, .int .i64 0, .bool false] 82)) #[] 0 (by rw [World.size_alloc]; omega) (by unfold maxLen; omega) (by simp)
    rw [World.size_alloc] at this
    exact this
  · show some (w.heap.size + 1) ≠ some w.heap.size
    intro e; injection e with e; omega
theorem xcells {W : World} {x : Nat} {a b c d : Value} {t : TypeId} (h : W.heap[x]? = some (.cells #[a, b, c, d] t (0, 0))) :
    (W.cell? ⟨x, 0, none⟩ = some a ∧ W.cell? ⟨x, 1, none⟩ = some b ∧ W.cell? ⟨x, 2, none⟩ = some c ∧ W.cell? ⟨x, 3, none⟩ = some d) ∧ (W.frozen? ⟨x, 1, none⟩ = false ∧ W.frozen? ⟨x, 2, none⟩ = false ∧ W.frozen? ⟨x, 3, none⟩ = false) := by
  simp [World.cell?, World.frozen?, h]
theorem xset1 {W : World} {x : Nat} {a b c d : Value} {t : TypeId} (h : W.heap[x]? = some (.cells #[a, b, c, d] t (0, 0))) (u : Value) : (W.setCell ⟨x, 1, none⟩ u).heap[x]? = some (.cells #[a, u, c, d] t (0, 0)) := by
  rw [heap_setCell_same W x 1 _ t u h]; rfl
theorem xset2 {W : World} {x : Nat} {a b c d : Value} {t : TypeId} (h : W.heap[x]? = some (.cells #[a, b, c, d] t (0, 0))) (u : Value) : (W.setCell ⟨x, 2, none⟩ u).heap[x]? = some (.cells #[a, b, u, d] t (0, 0)) := by
  rw [heap_setCell_same W x 2 _ t u h]; rfl
theorem xset3 {W : World} {x : Nat} {a b c d : Value} {t : TypeId} (h : W.heap[x]? = some (.cells #[a, b, c, d] t (0, 0))) (u : Value) : (W.setCell ⟨x, 3, none⟩ u).heap[x]? = some (.cells #[a, b, c, u] t (0, 0)) := by
  rw [heap_setCell_same W x 3 _ t u h]; rfl
theorem wpList_appN2 (w : World) {ops : Array Oper} {rest : List Oper} {o : Oper} {a : Act} {Q : Exit → Act → World → Prop} (hgd : o.guard = none) (s x : Operand)
    (ho : o.op = .call { callee := .builtin .append, args := #[s, x], argTypes := #[23, 23] })
    (base : Nat) (v : Value) (L : List Nd) (hs : a.eval s = v) (hown : NOwn w base v L) (g1 c : Nat) (d : Nd) (hx : a.eval x = .slice (some ⟨g1, 0, none⟩) 1 c) (hr : w.heap[g1]? = some (.cells d.cells 36 (0, 0)))
    (hn : L.length ≤ 1000) (hbase : base ≤ w.heap.size)
    (h : ∀ v' w', NOwn w' base v' (L ++ [d]) → w.grownBy w' v.ownBlock → (v'.ownBlock = v.ownBlock ∨ v'.ownBlock = some w.heap.size) → wpList Tryd.prog ops Q rest (a.put o.dst v') w') : wpList Tryd.prog ops Q (o :: rest) a w :=
  wpList_plain hgd fun _ hK => wp_appN w s x ho base v L hs hown g1 c d hx hr hn hbase fun v' w' h2 h3 h4 => hK _ _ (h v' w' h2 h3 h4)
def nm1k (L : List Nd) : Prop := ∀ (k : Nat) (d : Nd), L[k]? = some d → d.nm.size ≤ 1020
theorem nm1k_app {L : List Nd} {d : Nd} (h : nm1k L) (hd : d.nm.size ≤ 1020) : nm1k (L ++ [d]) := by
  intro k e he
  rcases Nat.lt_or_ge k L.length with hk | hk
  · rw [List.getElem?_append_left hk] at he
    exact h k e he
  · rw [List.getElem?_append_right hk] at he
    rcases Nat.eq_zero_or_pos (k - L.length) with h0 | h0
    · rw [h0] at he; simp at he; subst he; exact hd
    · rw [List.getElem?_eq_none (by simp; omega)] at he; cases he
set_option maxHeartbeats 8000000 in
set_option maxRecDepth 100000 in
theorem i_readNodes (A : Option Addr) (n c : Nat) (xs : List Int) (B : Nat) (w : World) (h : IntsAt w B A n c xs) (hB : B ≤ w.heap.size) (hbt : bytesOk xs = true) :
    Calls Tryd.prog 49 #[.slice A n c] w (RdPost w xs) := by
  have hlen := h.len
  have hnm := bytesOk_len hbt
  have HBt := Lib.hid (fun k => show 0 ≤ xs.getD k 0 ∧ xs.getD k 0 ≤ 255 by
    by_cases hk : k < xs.length
    · exact bytesOk_at hbt k hk
    · rw [List.getD_eq_getElem?_getD, List.getElem?_eq_none (by omega)]; simp)
  have R0 := ri_start w A n c
  have HBO := Lib.hid hbt
  have HLn := Lib.hid hlen
  have HI := Lib.hid (fun (W : World) (hb : Below w.heap.size w W) => h.below' hB hb)
  go_enter Tryd.func49, Tryd.ntmps49
  go_upto_region 2 with fail
  generalize World.alloc (World.alloc w _) _ = W0 at *
  generalize Value.slice (some ⟨w.heap.size + 1, 0, none⟩) 0 0 = v0 at *
  go_wp2_with fail
  refine (i_nextC w.heap.size A n c 0 xs B W0 (by simpa using R0.cur) (HI.out _ R0.bel) hB).mono ?_
  rintro e w1 ⟨rfl, C1, g1⟩
  have R1 := R0.next (Nat.le_refl _) g1 C1
  obtain ⟨k0, e0⟩ := nat_of' _ (HBt.out 0).1
  have hk1 : k0 ≤ 255 := by have := (HBt.out 0).2; omega
  have HS := Lib.hid (show decide (n < 0 + 1) = false → ∃ L0, ([] : List Nd) = L0.map uniNd ∧ rdMore xs L0 k0 (min (0 + 1) n) = rdOut xs from fun hh => by
    have hn : 0 < n := by simp at hh; omega
    exact ⟨[], rfl, by rw [rdOut_of (by omega), e0, Nat.min_eq_left (by omega)]; rfl⟩)
  have HO := Lib.hid (show decide (n < 0 + 1) = true → rdOut xs = none from fun hh => rdOut_nil (by simp at hh; omega))
  have hp1 : min (0 + 1) n ≤ n := Nat.min_le_right _ _
  generalize min (0 + 1) n = p1 at *
  generalize decide (n < 0 + 1) = pa1 at *
  have HR := Lib.hid R1
  rw [e0]
  clear R0 R1 C1 g1 h hbt hlen hnm e0
  go_wp2
  go_loopw [6, 7] (fun v i7 wr => ∃ (L : List Nd) (p k : Nat) (past : Bool), i7 = .int .i64 k ∧ p ≤ n ∧ L.length + k ≤ 255 ∧ Hid (RI w w.heap.size A n c wr v L p past) ∧ Hid (nm1k L) ∧ Hid (past = false → ∃ L0, L = L0.map uniNd ∧ rdMore xs L0 k p = rdOut xs) ∧ Hid (past = true → rdOut xs = none)) (fun _ i7 _ => (intOf i7).toNat)
  case atStart => exact ⟨[], p1, k0, pa1, rfl, hp1, by simp; omega, HR, Lib.hid (by intro k d hd; simp at hd), HS, HO⟩
  case round =>
    clear HR HS HO hp1 hk1
    obtain ⟨L, p, k, past, rfl, hp, hLk, hR, hNm, hS, hN⟩ := hrel
    obtain ⟨⟨c0, c1, c2⟩, -, -⟩ := cur_cells hR.out.cur
    by_cases hk : 0 < k
    · have dk : decide ((0 : Int) < (k : Int)) = true := by simp; omega
      have dk' : decide (0 < k) = true := by simp; omega
      cases past
      · have RA := hR.out
        go_wp2_with fail
        refine (i_nextC w.heap.size A n c p xs B wr (by rw [Nat.min_eq_left hp, show decide (n < p) = false by simp; omega]; exact RA.cur) (HI.out _ RA.bel) hB).mono ?_
        rintro e w1 ⟨rfl, C1, g1⟩
        have R1 := RA.next (Nat.le_refl _) g1 C1
        obtain ⟨x0, e0⟩ := nat_of' _ (HBt.out p).1
        rw [e0]
        clear c0 c1 c2 RA C1 g1
        go_wp2_with fail
        have X1 := heap_alloc_new w1 (.cells #[.int .i64 (x0 : Int), .string ⟨#[]⟩, .int .i64 0, .bool false] 36)
        have R1' := R1.below ((Below.refl _ _).alloc (Nat.le_refl _) (.cells #[.int .i64 (x0 : Int), .string ⟨#[]⟩, .int .i64 0, .bool false] 36))
        have gx0 : w.heap.size < w1.heap.size := R1.cur.lt
        have hvx : u6.ownBlock ≠ some w1.heap.size := fun e => by have := (R1.own.lt _ e).2; omega
        have hxl : w1.heap.size < (w1.alloc (.cells #[.int .i64 (x0 : Int), .string ⟨#[]⟩, .int .i64 0, .bool false] 36)).heap.size := by rw [World.size_alloc]; omega
        generalize World.alloc w1 _ = W1 at *
        generalize w1.heap.size = gx at *
        clear R1
        refine (i_nextC w.heap.size A n c (p + 1) xs B W1 R1'.cur (HI.out _ R1'.bel) hB).mono ?_
        rintro e w2 ⟨rfl, C2, g2⟩
        have R2 := R1'.next (Nat.le_refl _) g2 C2
        have X2 := zkeep X1 g2 (fun e => by omega)
        have z2 := g2.size
        obtain ⟨x1, e1⟩ := nat_of' _ (HBt.out (p + 1)).1
        have l1 : x1 ≤ 255 := by have := (HBt.out (p + 1)).2; omega
        rw [e1]
        clear C2 g2 X1 R1'
        go_wp2_with fail
        refine (i_nextC w.heap.size A n c (p + 2) xs B w2 R2.cur (HI.out _ R2.bel) hB).mono ?_
        rintro e w3 ⟨rfl, C3, g3⟩
        have R3 := R2.next (Nat.le_refl _) g3 C3
        have X3 := zkeep X2 g3 (fun e => by omega)
        have z3 := g3.size
        obtain ⟨x2, e2⟩ := nat_of' _ (HBt.out (p + 2)).1
        have l2 : x2 ≤ 255 := by have := (HBt.out (p + 2)).2; omega
        rw [e2]
        have hwm : IntKind.i64.wrap (256 * (x1 : Int)) = 256 * (x1 : Int) := IntWalk.i64_in _ (by omega)
        have hwa : IntKind.i64.wrap (256 * (x1 : Int) + (x2 : Int)) = 256 * (x1 : Int) + (x2 : Int) := IntWalk.i64_in _ (by omega)
        obtain ⟨⟨q0, q1, q2, q3⟩, f1, f2, f3⟩ := xcells X3
        clear C3 g3 X2 R2
        go_wp2_with fail
        have X3' := xset2 X3 (.int .i64 (256 * (x1 : Int) + (x2 : Int)))
        have G3 := grown_set (p := ⟨gx, 2, none⟩) (World.grownBy.refl w3 (some gx)) (.inl rfl) (.int .i64 (256 * (x1 : Int) + (x2 : Int)))
        have R3' := R3.other G3 (by omega) (by omega) hvx
        have z3' := G3.size
        generalize World.setCell w3 _ _ = W3 at *
        clear q0 q1 q2 q3 f1 f2 f3 X3 G3 R3
        refine (i_nextC w.heap.size A n c (p + 3) xs B W3 R3'.cur (HI.out _ R3'.bel) hB).mono ?_
        rintro e w4 ⟨rfl, C4, g4⟩
        have R4 := R3'.next (Nat.le_refl _) g4 C4
        have X4 := zkeep X3' g4 (fun e => by omega)
        have z4 := g4.size
        obtain ⟨x3, e3⟩ := nat_of' _ (HBt.out (p + 3)).1
        rw [e3]
        obtain ⟨⟨q0, q1, q2, q3⟩, f1, f2, f3⟩ := xcells X4
        clear C4 g4 X3' R3'
        go_wp2_with fail
        have X4' := xset3 X4 (.bool ((x3 : Int) == 1))
        have G4 := grown_set (p := ⟨gx, 3, none⟩) (World.grownBy.refl w4 (some gx)) (.inl rfl) (.bool ((x3 : Int) == 1))
        have R4' := R4.other G4 (by omega) (by omega) hvx
        have z4' := G4.size
        generalize World.setCell w4 _ _ = W4 at *
        clear q0 q1 q2 q3 f1 f2 f3 X4 G4 R4
        refine (i_nextC w.heap.size A n c (p + 4) xs B W4 R4'.cur (HI.out _ R4'.bel) hB).mono ?_
        rintro e w5 ⟨rfl, C5, g5⟩
        have R5 := R4'.next (Nat.le_refl _) g5 C5
        have X5 := zkeep X4' g5 (fun e => by omega)
        have z5 := g5.size
        obtain ⟨len, e4⟩ := nat_of' _ (HBt.out (p + 4)).1
        have l4 : len ≤ 255 := by have := (HBt.out (p + 4)).2; omega
        rw [e4]
        clear C5 g5 X4' R4'
        go_wp2_with fail
        refine (i_some w.heap.size A n c (min (p + 4 + 1) n) len (decide (n < p + 4 + 1)) xs B w5 R5.cur (HI.out _ R5.bel) hB (Nat.min_le_right _ _) l4).mono ?_
        rintro e w6 ⟨v6, ys, q, pt, rfl, O6, C6, hq6, g6, hyl, hf, ht⟩
        have R6 := R5.next (Nat.le_refl _) g6 C6
        have X6 := zkeep X5 g6 (fun e => by omega)
        have z6 := g6.size
        have hlt6 := O6.lt
        obtain ⟨A6, c6, rfl, I6⟩ := O6.ints (by omega)
        generalize hdr : 256 * (x1 : Int) + (x2 : Int) = dr at *
        generalize hpv : ((x3 : Int) == 1) = pv at *
        have HV := Lib.hid (And.intro e0 (And.intro e1 (And.intro e2 (And.intro e3 (And.intro e4 (And.intro hdr hpv))))))
        have HF := Lib.hid hf
        have HT := Lib.hid ht
        clear e0 e1 e2 e3 e4 hdr hpv hf ht C6 g6 X5 R5 O6
        have HR6 := Lib.hid R6
        have HX6 := Lib.hid X6
        clear R6 X6 hwm hwa
        go_wp2
        go_loopw [47] (fun i47 wj => ∃ j : Nat, j ≤ ys.length ∧ i47 = .int .i64 j ∧ Hid (w6.grownBy wj (some gx)) ∧ Hid (wj.heap[gx]? = some (.cells #[.int .i64 (x0 : Int), .string (uniZ (ys.take j)), .int .i64 dr, .bool pv] 36 (0, 0)))) (fun i47 _ => ys.length - (intOf i47).toNat)
        case atStart => exact ⟨0, Nat.zero_le _, rfl, Lib.hid (World.grownBy.refl _ _), HX6⟩
        case round =>
          obtain ⟨j, hj, rfl, hG, hX⟩ := hrel
          obtain ⟨⟨q0, q1, q2, q3⟩, f1, f2, f3⟩ := xcells hX.out
          by_cases hjl : j < ys.length
          · obtain ⟨a6, rfl, ha6, hy⟩ := I6.at_ j hjl
            have hy' : wr.cell? (a6.add j) = some (.int .i64 (ys.getD j 0)) := by
              rw [hG.out.cell_far _ (by rw [block_add]; exact ha6) (fun e => by
                rw [block_add] at e
                injection e with e
                have hh : (Value.slice (some a6) ys.length c6).ownBlock = some a6.block := rfl
                have := (hlt6 _ hh).1
                omega)]
              exact hy
            have HTk := Lib.hid (show uniZ (ys.take (j + 1)) = uniZ (ys.take j) ++ Utf8.encode (wrap32 (ys.getD j 0)) by rw [take_succ_getD ys j hjl]; exact uniZ_app _ _)
            have hs1 := uniZ_size (ys.take j)
            rw [List.length_take] at hs1
            have hs2 := enc_size (wrap32 (ys.getD j 0))
            generalize uniZ (ys.take j) = s at *
            generalize ys.getD j 0 = y at *
            have hz : ¬ 9223372036854775807 < s.size + (Utf8.encode (wrap32 y)).size := by omega
            have j0 : (0 : Int) ≤ (j : Int) := by omega
            have j1 : (j : Int) < (ys.length : Int) := by omega
            clear hy
            go_wp2
            exact ⟨⟨j + 1, by omega, by congr 1, Lib.hid (grown_set hG.out (.inl rfl) _), Lib.hid (by rw [HTk.out]; exact xset1 hX.out _)⟩, by simp [intOf]; omega⟩
          · obtain rfl : j = ys.length := by omega
            have HXn := hX.out
            rw [List.take_length] at HXn
            have hsn := uniZ_size ys
            have R7 := HR6.out.other hG.out (by omega) (by omega) hvx
            have HSS := Lib.hid (show pt = false → ∃ L0, L ++ [⟨(x0 : Int), uniZ ys, dr, pv⟩] = L0.map uniNd ∧ rdMore xs L0 (k - 1) q = rdOut xs from fun hh => by
              obtain ⟨f1, f2, f3⟩ := HF.out hh
              have hn5 : p + 5 ≤ n := by simp at f1; omega
              rw [Nat.min_eq_left (by omega)] at f2 f3
              obtain ⟨L0, eL, eR⟩ := hS.out (by trivial)
              obtain ⟨e0, e1, e2, e3, e4, hdr, hpv⟩ := HV.out
              have hln := HLn.out
              have hrl : rdLen xs p = len := by unfold rdLen; rw [e4]; rfl
              have hre : rdEnd xs p = q := by unfold rdEnd; omega
              have hfit : rdFit xs p = true := by unfold rdFit; rw [hre]; simp; omega
              refine ⟨L0 ++ [rdNd xs p], ?_, ?_⟩
              · rw [← sim_step HBO.out hrl eL, e0, e1, e2, e3, hdr, hpv, f3, show q - (p + 4 + 1) = len by omega]
              · have hk' : k = (k - 1) + 1 := by omega
                rw [hk'] at eR
                rw [← hre]
                exact (rdMore_step hfit).symm.trans eR)
            have HOO := Lib.hid (show pt = true → rdOut xs = none from fun hh => by
              have ht := HT.out hh
              obtain ⟨L0, eL, eR⟩ := hS.out (by trivial)
              obtain ⟨e0, e1, e2, e3, e4, hdr, hpv⟩ := HV.out
              have hln := HLn.out
              have hrl : rdLen xs p = len := by unfold rdLen; rw [e4]; rfl
              have hfit : rdFit xs p = false := by
                unfold rdFit rdEnd
                rw [hrl]
                rcases ht with ht | ht
                · simp at ht; simp; omega
                · rcases Nat.lt_or_ge n (p + 5) with h5 | h5
                  · simp; omega
                  · rw [Nat.min_eq_left (by omega)] at ht
                    simp; omega
              have hk' : k = (k - 1) + 1 := by omega
              rw [hk'] at eR
              exact eR.symm.trans (rdMore_no hfit))
            generalize uniZ ys = nm at *
            clear q0 q1 q2 q3 f1 f2 f3
            obtain ⟨⟨q0, q1, q2, q3⟩, -⟩ := xcells HXn
            have z7 := R7.bel.size
            go_wp2_with (at_builtin; refine wpList_appN2 _ rfl _ _ rfl w.heap.size _ L rfl (R7.below ((Below.refl _ _).alloc (Nat.le_refl _) _)).own _ _ ⟨(x0 : Int), nm, dr, pv⟩ rfl (heap_alloc_new _ _) (by omega) (by rw [World.size_alloc]; omega) ?_; intro v' w' O' g' ob')
            have HR8 := Lib.hid (R7.app g' O' ob')
            have HNM := Lib.hid (nm1k_app (d := ⟨(x0 : Int), nm, dr, pv⟩) hNm.out (by show nm.size ≤ 1020; omega))
            have hln : (L ++ [(⟨(x0 : Int), nm, dr, pv⟩ : Nd)]).length = L.length + 1 := by simp
            generalize L ++ [(⟨(x0 : Int), nm, dr, pv⟩ : Nd)] = L2 at *
            clear q0 q1 q2 q3 HXn O' g' ob'
            go_wp2
            go_roundw
            case rel => exact ⟨L2, q, k - 1, pt, by congr 1; omega, hq6, by omega, HR8, HNM, HSS, HOO⟩
            case measure => simp [intOf]; omega
      · have HX := Lib.hid (rdRes_out (hN.out rfl))
        have HB := Lib.hid hR.out.bel
        go_wp2
        go_ret3
        exact rdPost_no HX.out HB.out
    · obtain rfl : k = 0 := by omega
      cases past
      · obtain ⟨L0, eL, eR⟩ := hS.out rfl
        have hOut : rdOut xs = some (L0, p) := eR.symm.trans (rdMore_end xs L0 p)
        have RA := hR.out
        obtain ⟨A', c', rfl, hN'⟩ := RA.own.nodes (by omega) (fun k d hd => by have := hNm.out k d hd; omega)
        have HEL := Lib.hid eL
        have HOut := Lib.hid hOut
        clear eL eR hOut
        cases ho : ntOk L
        · have HY := Lib.hid (sim_bad HOut.out HEL.out ho)
          go_wp2_with fail
          refine (i_IsNodeTable A' L.length c' L _ wr hN' (Nat.le_refl _)).mono ?_
          rintro e w2 ⟨rfl, b2⟩
          rw [ho]
          have HB := Lib.hid (RA.bel.trans (b2.mono RA.bel.size))
          go_wp2
          go_ret3
          exact rdPost_no HY.out HB.out
        · have HY := Lib.hid (sim_if HOut.out HEL.out ho)
          have hel : (encK L L.length).length ≤ 400 := by
            have := encK_len (L := L) (fun k d hd => ndOk_nm (ntOk_nd ho hd)) L.length
            have := (ntOk_split ho).1
            omega
          go_wp2_with fail
          refine (i_IsNodeTable A' L.length c' L _ wr hN' (Nat.le_refl _)).mono ?_
          rintro e w2 ⟨rfl, b2⟩
          have R2 := RA.below b2
          have N2 := hN'.below' (Nat.le_refl _) b2
          have z2 := b2.size
          rw [ho]
          go_wp2_with fail
          refine (i_nodeTableBytes A' L.length c' L _ w2 N2 z2 ho).mono ?_
          rintro e w3 ⟨v3, rfl, O3, b3⟩
          have HR3 := Lib.hid (R2.below b3)
          obtain ⟨A3, c3, rfl, I3⟩ := O3.ints (by omega)
          generalize encK L L.length = E at *
          go_wp2_with fail
          refine (show Calls _ _ _ _ (BgPost (eqL (xs.take p) E) w3) from i_begins w.heap.size A A3 n c p E.length c3 false xs E B _ w3 HR3.out.cur (HI.out _ HR3.out.bel) I3 hp).mono ?_
          rintro e w4 ⟨rfl, m4, rfl⟩
          have R4 := HR3.out.below (below_drewN (Below.refl _ _) m4)
          have HR4 := Lib.hid R4
          clear c0 c1 c2 RA R2 N2 I3 O3 b2 b3 hN' ho
          obtain ⟨⟨c0, c1, c2⟩, -, -⟩ := cur_cells R4.cur
          generalize eqL (xs.take p) E = bb at *
          clear R4
          generalize w3.drewN m4 = w4 at *
          cases bb
          · have HZ := Lib.hid (show rdRes xs = none from HY.out.trans (by simp))
            go_wp2
            go_ret3
            exact rdPost_no HZ.out HR4.out.bel
          · have HZ := Lib.hid (show rdRes xs = some (L, p) from HY.out.trans (by simp))
            go_upto_region 16 with fail
            go_quiet (fail)
            go_wp2
            go_ret3
            exact rdPost_yes HZ.out (HR4.out.below (below_drewN (Below.refl _ _) _)).own (HR4.out.below (below_drewN (Below.refl _ _) _)).bel
      · have HX := Lib.hid (rdRes_out (hN.out rfl))
        have HB := Lib.hid hR.out.bel
        go_wp2
        go_ret3
        exact rdPost_no HX.out HB.out
end Go.Proofs.YtgenfffgenddmaaDoor

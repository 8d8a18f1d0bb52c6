/- The body of a frame: the program's. -/
import Derived.Test.YtpcdachkmekjgaaBody
import Derived.Test.YtpcdachkmekjgaaToB
import Derived.Deep.RegionHeldLaw
import Derived.BigRegion
namespace Go.Proofs.Ytpcdachkmekjgaa
open Go.RowKit
set_option linter.unusedSimpArgs false
set_option linter.unusedVariables false
theorem i_toBytes' (A : Option Addr) (n c : Nat) (xs : List Int) (B m : Nat) (w : World) (h : IntsAt w B A n c xs) (hB : B ≤ w.heap.size) (hb : bit01 xs) (hm : 1 ≤ m) (hn : n = 8 * m) :
    Calls Try.prog 92 #[.slice A n c] w fun e w' => ∃ v, e = .returned v ∧ IOwn w' w.heap.size v (bytesN xs m) ∧ Below w.heap.size w w' := by
  subst hn
  exact i_toBytes A c xs B m w h hB hb hm
theorem lit_own1 (w : World) (x : Int) (base : Nat) (hb : base ≤ w.heap.size) : IOwn (w.alloc (.cells #[.int .i64 x] 2)) base (.slice (some ⟨w.heap.size, 0, none⟩) 1 1) [x] := lit_own w [x] base hb (by simp)
theorem step_app {P : Program} {ops : Array Oper} {o : Oper} {a : Act} {w : World} {K : Act → World → Prop} {Q : Exit → Act → World → Prop} {E : Prop}
    (hg : o.guard = none) (s x : Operand) (t : TypeId) (ho : o.op = .call { callee := .builtin .append, args := #[s, x], argTypes := #[t, t] })
    (base : Nat) (ht : P.underlying t = some (.slice 2)) (hinfo : (P.info? 2).map (fun i => (i.zero, i.size, i.bytes)) = some (some (.int .i64 0), 1, 8))
    (v : Value) (xs : List Int) (hs : a.eval s = v) (hown : IOwn w base v xs) (B : Nat) (A : Option Addr) (m c : Nat) (ys : List Int) (hx : a.eval x = .slice A m c) (hr : IntsAt w B A m c ys)
    (hn : xs.length + m ≤ 17179869184) (hbase : base ≤ w.heap.size)
    (h : ∀ v' w', IOwn w' base v' (xs ++ ys) → w.grownBy w' v.ownBlock → (v'.ownBlock = v.ownBlock ∨ v'.ownBlock = some w.heap.size) → K (a.put o.dst v') w') :
    if Region.wanted o (yielded ops a.tmps) = true then Oper.wp P o a w K Q else E := by
  have hw : Region.wanted o (yielded ops a.tmps) = true := by simp [Region.wanted, hg]
  rw [if_pos hw]
  exact wp_app w s x t ho base ht hinfo v xs hs hown B A m c ys hx hr hn hbase h
theorem i_hasS_yes (k : Int) (w : World) (h : k ≠ 0) : Calls Try.prog 73 #[.int .i64 k] w fun e w' => e = .returned (.bool true) ∧ w = w' := by
  have h' : (k != 0) = true := by simpa using h
  clear h
  go_enter Try.func73, Try.ntmps73
  go_wp2
  go_ret
  exact ⟨rfl, rfl⟩
theorem i_hasS_no (k : Int) (w : World) (h : k = 0) : Calls Try.prog 73 #[.int .i64 k] w fun e w' => e = .returned (.bool false) ∧ w = w' := by
  subst h
  go_enter Try.func73, Try.ntmps73
  go_wp2
  go_ret
  exact ⟨rfl, rfl⟩
theorem i_hasD_yes (k : Int) (w : World) (h : k = 0 ∨ k = 2) : Calls Try.prog 97 #[.int .i64 k] w fun e w' => e = .returned (.bool true) ∧ w = w' := by
  rcases h with rfl | rfl <;>
  · go_enter Try.func97, Try.ntmps97
    go_wp2
    go_ret
    exact ⟨rfl, rfl⟩
theorem i_hasD_no (k : Int) (w : World) (h : k ≠ 0 ∧ k ≠ 2) : Calls Try.prog 97 #[.int .i64 k] w fun e w' => e = .returned (.bool false) ∧ w = w' := by
  have h' : (k == 0) = false := by simpa using h.1
  have h'' : (k == 2) = false := by simpa using h.2
  clear h
  go_enter Try.func97, Try.ntmps97
  go_wp2
  go_ret
  exact ⟨rfl, rfl⟩
set_option maxHeartbeats 4000000 in
theorem i_body_st (k q : Int) (t m r s v : Nat) (A : Option Addr) (n c : Nat) (xs : List Int) (B : Nat) (w : World) (h : IntsAt w B A n c xs) (hB : B ≤ w.heap.size) (hn : n ≤ 32) (hk : 0 ≤ k ∧ k ≤ 3) (hq : 0 ≤ q ∧ q ≤ 7) (ht : t < 65536) (hm : m < 16) (hr : r < 16) (hs : s < 256) (hv : v < 4294967296) (h0 : k ≠ 0) (h2 : k ≠ 2) :
    Calls Try.prog 54 #[.agg #[.int .i64 k, .int .i64 q, .int .i64 t, .int .i64 m, .int .i64 r, .int .i64 s, .int .i64 v, .slice A n c]] w fun e w' => ∃ u, e = .returned u ∧ IOwn w' w.heap.size u ([k * 64 + q * 8] ++ bytesN (stBits t m r s v) 8) ∧ Below w.heap.size w w' := by
  have R := heap_alloc_new w (.cells #[.int .i64 k, .int .i64 q, .int .i64 t, .int .i64 m, .int .i64 r, .int .i64 s, .int .i64 v, .slice A n c] 32)
  have B0 := (Below.refl w.heap.size w).alloc (Nat.le_refl _) (.cells #[.int .i64 k, .int .i64 q, .int .i64 t, .int .i64 m, .int .i64 r, .int .i64 s, .int .i64 v, .slice A n c] 32)
  have z0 : w.heap.size < (w.alloc (.cells #[.int .i64 k, .int .i64 q, .int .i64 t, .int .i64 m, .int .i64 r, .int .i64 s, .int .i64 v, .slice A n c] 32)).heap.size := by simp
  have hI := h.alloc hB (.cells #[.int .i64 k, .int .i64 q, .int .i64 t, .int .i64 m, .int .i64 r, .int .i64 s, .int .i64 v, .slice A n c] 32)
  have hnl : xs.length = n := h.len
  have H0 := Lib.hid h0
  clear h0
  have H2 := Lib.hid h2
  clear h2
  go_enter Try.func54, Try.ntmps54
  go_upto_region 1 with fail
  generalize hg : w.heap.size = g at *
  generalize World.alloc _ _ = W at *
  have O1 := lit_own1 W (k * 64 + q * 8) (g + 1) z0
  have R1 := (Below.heap_alloc W (.cells #[.int .i64 (k * 64 + q * 8)] 2) g z0).trans R
  have B1 := B0.alloc (by omega) (.cells #[.int .i64 (k * 64 + q * 8)] 2)
  have z1 : g + 1 < (W.alloc (.cells #[.int .i64 (k * 64 + q * 8)] 2)).heap.size := by simp; omega
  have I1 := hI.alloc (by omega) (.cells #[.int .i64 (k * 64 + q * 8)] 2)
  obtain ⟨c0, c1, c2, c3, c4, c5, c6, c7⟩ := fr_cells R
  have HL := Lib.hid hnl
  clear h hI hnl
  go_upto_region 2 with fail
  clear c0 c1 c2 c3 c4 c5 c6 c7 R B0
  obtain ⟨c0, c1, c2, c3, c4, c5, c6, c7⟩ := fr_cells R1
  generalize hW1 : W.alloc _ = W1 at *
  clear hW1
  have O1 := O1.less (base' := g + 1) (Nat.le_refl _)
  generalize Value.slice (some ⟨W.heap.size, 0, none⟩) 1 1 = v1 at *
  go_wp2_with (first
    | (go_at_call 73; refine (i_hasS_yes k _ H0.out).mono ?_; rintro e w' ⟨rfl, rfl⟩)
    | (go_at_call 96; refine (i_stateBits t m r s v _ ht hm hr hs hv).mono ?_; rintro e w2 ⟨u2, rfl, o2, b2⟩; obtain ⟨A2, cc2, rfl, i2⟩ := o2.ints (by rw [stBits_len]; omega); have z2 := b2.size; have R2 := (b2.block g (by omega)).trans R1; have O2 := O1.below_ b2; have B2 := B1.trans (b2.mono (by omega)); have I2 := I1.below' (by omega) b2)
    | (go_at_call 92; refine (i_toBytes' _ _ _ _ _ 8 _ i2 (Nat.le_refl _) (stBits_mem _ _ _ _ _) (by omega) (stBits_len _ _ _ _ _)).mono ?_; rintro e w3 ⟨u3, rfl, o3, b3⟩; obtain ⟨A3, cc3, rfl, i3⟩ := o3.ints (by rw [bytesN_len]; omega); have z3 := b3.size; have R3 := (b3.block g (by omega)).trans R2; have O3 := O2.below_ b3; have B3 := B2.trans (b3.mono (by omega)); have I3 := I2.below' (by omega) b3)
    | (at_builtin; refine wpList_app _ rfl _ _ 24 rfl (g + 1) Try.underlying24 int_info _ [k * 64 + q * 8] rfl O3 _ _ _ _ _ rfl i3 (by rw [bytesN_len]; simp) (by omega) ?_; intro v4 w4 O4 g4 _; have b4 := app_below O3 g4 (by omega); have R4 := (b4.block g (by omega)).trans R3; have B4 := B3.trans (b4.mono (by omega)); have I4 := I3.below' (by omega) b4; have z4 := b4.size; obtain ⟨c0, c1, c2, c3, c4, c5, c6, c7⟩ := fr_cells R4)
    | (go_at_call 97; refine (i_hasD_no k _ ⟨H0.out, H2.out⟩).mono ?_; rintro e w' ⟨rfl, rfl⟩))
  go_ret
  refine ⟨_, rfl, ?_, ?_⟩
  · have := O4.less (base' := g) (by omega)
    rw [hg]; simpa using this
  · rw [hg]; exact B4
set_option maxHeartbeats 4000000 in
theorem i_body_st_da (k q : Int) (t m r s v : Nat) (A : Option Addr) (n c : Nat) (xs : List Int) (B : Nat) (w : World) (h : IntsAt w B A n c xs) (hB : B ≤ w.heap.size) (hn : n ≤ 32) (hk : 0 ≤ k ∧ k ≤ 3) (hq : 0 ≤ q ∧ q ≤ 7) (ht : t < 65536) (hm : m < 16) (hr : r < 16) (hs : s < 256) (hv : v < 4294967296) (h0 : k ≠ 0) (h2 : k = 2) :
    Calls Try.prog 54 #[.agg #[.int .i64 k, .int .i64 q, .int .i64 t, .int .i64 m, .int .i64 r, .int .i64 s, .int .i64 v, .slice A n c]] w fun e w' => ∃ u, e = .returned u ∧ IOwn w' w.heap.size u ([k * 64 + q * 8] ++ bytesN (stBits t m r s v) 8 ++ [(n : Int)] ++ xs) ∧ Below w.heap.size w w' := by
  have R := heap_alloc_new w (.cells #[.int .i64 k, .int .i64 q, .int .i64 t, .int .i64 m, .int .i64 r, .int .i64 s, .int .i64 v, .slice A n c] 32)
  have B0 := (Below.refl w.heap.size w).alloc (Nat.le_refl _) (.cells #[.int .i64 k, .int .i64 q, .int .i64 t, .int .i64 m, .int .i64 r, .int .i64 s, .int .i64 v, .slice A n c] 32)
  have z0 : w.heap.size < (w.alloc (.cells #[.int .i64 k, .int .i64 q, .int .i64 t, .int .i64 m, .int .i64 r, .int .i64 s, .int .i64 v, .slice A n c] 32)).heap.size := by simp
  have hI := h.alloc hB (.cells #[.int .i64 k, .int .i64 q, .int .i64 t, .int .i64 m, .int .i64 r, .int .i64 s, .int .i64 v, .slice A n c] 32)
  have hnl : xs.length = n := h.len
  have H0 := Lib.hid h0
  clear h0
  have H2 := Lib.hid h2
  clear h2
  go_enter Try.func54, Try.ntmps54
  go_upto_region 1 with fail
  generalize hg : w.heap.size = g at *
  generalize World.alloc _ _ = W at *
  have O1 := lit_own1 W (k * 64 + q * 8) (g + 1) z0
  have R1 := (Below.heap_alloc W (.cells #[.int .i64 (k * 64 + q * 8)] 2) g z0).trans R
  have B1 := B0.alloc (by omega) (.cells #[.int .i64 (k * 64 + q * 8)] 2)
  have z1 : g + 1 < (W.alloc (.cells #[.int .i64 (k * 64 + q * 8)] 2)).heap.size := by simp; omega
  have I1 := hI.alloc (by omega) (.cells #[.int .i64 (k * 64 + q * 8)] 2)
  obtain ⟨c0, c1, c2, c3, c4, c5, c6, c7⟩ := fr_cells R
  have HL := Lib.hid hnl
  clear h hI hnl
  go_upto_region 2 with fail
  clear c0 c1 c2 c3 c4 c5 c6 c7 R B0
  obtain ⟨c0, c1, c2, c3, c4, c5, c6, c7⟩ := fr_cells R1
  generalize hW1 : W.alloc _ = W1 at *
  clear hW1
  have O1 := O1.less (base' := g + 1) (Nat.le_refl _)
  generalize Value.slice (some ⟨W.heap.size, 0, none⟩) 1 1 = v1 at *
  go_wp2_with (first
    | (go_at_call 73; refine (i_hasS_yes k _ H0.out).mono ?_; rintro e w' ⟨rfl, rfl⟩)
    | (go_at_call 96; refine (i_stateBits t m r s v _ ht hm hr hs hv).mono ?_; rintro e w2 ⟨u2, rfl, o2, b2⟩; obtain ⟨A2, cc2, rfl, i2⟩ := o2.ints (by rw [stBits_len]; omega); have z2 := b2.size; have R2 := (b2.block g (by omega)).trans R1; have O2 := O1.below_ b2; have B2 := B1.trans (b2.mono (by omega)); have I2 := I1.below' (by omega) b2)
    | (go_at_call 92; refine (i_toBytes' _ _ _ _ _ 8 _ i2 (Nat.le_refl _) (stBits_mem _ _ _ _ _) (by omega) (stBits_len _ _ _ _ _)).mono ?_; rintro e w3 ⟨u3, rfl, o3, b3⟩; obtain ⟨A3, cc3, rfl, i3⟩ := o3.ints (by rw [bytesN_len]; omega); have z3 := b3.size; have R3 := (b3.block g (by omega)).trans R2; have O3 := O2.below_ b3; have B3 := B2.trans (b3.mono (by omega)); have I3 := I2.below' (by omega) b3)
    | (at_builtin; refine wpList_app _ rfl _ _ 24 rfl (g + 1) Try.underlying24 int_info _ [k * 64 + q * 8] rfl O3 _ _ _ _ _ rfl i3 (by rw [bytesN_len]; simp) (by omega) ?_; intro v4 w4 O4 g4 _; have b4 := app_below O3 g4 (by omega); have R4 := (b4.block g (by omega)).trans R3; have B4 := B3.trans (b4.mono (by omega)); have I4 := I3.below' (by omega) b4; have z4 := b4.size; obtain ⟨c0, c1, c2, c3, c4, c5, c6, c7⟩ := fr_cells R4)
    | (go_at_call 97; refine (i_hasD_yes k _ (.inr H2.out)).mono ?_; rintro e w' ⟨rfl, rfl⟩))
  have zz := Below.lt_of' R4
  have c7 := (fr_cells R4).2.2.2.2.2.2.2
  have zg : g < w4.heap.size := zz
  have zg2 : w4.heap.size ≠ g := by omega
  have z9 : g + 1 ≤ w4.heap.size := by omega
  have HR := Lib.hid R4
  have HB := Lib.hid B4
  clear R4 B4 c0 c1 c2 c3 c4 c5 c6
  go_region_held_law (fun w' => w'.cell? ⟨g, 7, none⟩ = some (.slice A n c)) (go_keep)
    (first
      | (refine step_app rfl _ _ 24 rfl (g + 1) Try.underlying24 int_info _ (([k * 64 + q * 8] ++ bytesN (stBits t m r s v) 8) ++ [(n : Int)]) rfl O5 _ _ _ _ xs rfl I5 (by have := HL.out; simp [bytesN_len]; omega) (by omega) ?_; intro v6 w6 O6 g6 _; have b6 := app_below O6x g6 (by omega); have z6 : w6.cell? ⟨g, 7, none⟩ = some (.slice A n c) := (b6.cell (show g < g + 1 by omega)).trans z5)
      | (refine step_app rfl _ _ 24 rfl (g + 1) Try.underlying24 int_info _ ([k * 64 + q * 8] ++ bytesN (stBits t m r s v) 8) rfl (O4.drew.alloc _) _ _ 1 1 [(n : Int)] rfl (lit_ints w4.drew [(n : Int)] 2 (by simp)) (by simp [bytesN_len]) (show g + 1 ≤ (w4.alloc _).heap.size by rw [World.size_alloc]; omega) ?_; intro v5 w5 O5 g5 _; have b5 := app_below (O4.drew.alloc _) g5 (show g + 1 ≤ (w4.alloc _).heap.size by rw [World.size_alloc]; omega); have z5 : w5.cell? ⟨g, 7, none⟩ = some (.slice A n c) := (b5.cell (show g < g + 1 by omega)).trans ((World.cell?_alloc_lt w4.drew _ ⟨g, 7, none⟩ zg).trans c7); have I5 := ((I4.drew.alloc (show B ≤ w4.heap.size by omega) _).below' (show B ≤ g + 1 by omega) b5 : IntsAt w5 _ A n c xs); have y5 : w4.heap.size + 1 ≤ w5.heap.size := (World.size_alloc w4 _) ▸ b5.size; have O6x := O5))
  go_wp2
  go_ret
  refine ⟨_, rfl, ?_, ?_⟩
  · have := O6.less (base' := g) (by omega)
    rw [hg]; simpa using this
  · rw [hg]
    exact ((HB.out.drew.alloc (show g ≤ w4.heap.size by omega) _).trans (b5.mono (by omega))).trans (b6.mono (by omega))
set_option maxHeartbeats 4000000 in
theorem i_body_da (k q : Int) (t m r s v : Nat) (A : Option Addr) (n c : Nat) (xs : List Int) (B : Nat) (w : World) (h : IntsAt w B A n c xs) (hB : B ≤ w.heap.size) (hn : n ≤ 32) (hk : 0 ≤ k ∧ k ≤ 3) (hq : 0 ≤ q ∧ q ≤ 7) (ht : t < 65536) (hm : m < 16) (hr : r < 16) (hs : s < 256) (hv : v < 4294967296) (h0 : k = 0) :
    Calls Try.prog 54 #[.agg #[.int .i64 k, .int .i64 q, .int .i64 t, .int .i64 m, .int .i64 r, .int .i64 s, .int .i64 v, .slice A n c]] w fun e w' => ∃ u, e = .returned u ∧ IOwn w' w.heap.size u ([k * 64 + q * 8] ++ [(n : Int)] ++ xs) ∧ Below w.heap.size w w' := by
  have R := heap_alloc_new w (.cells #[.int .i64 k, .int .i64 q, .int .i64 t, .int .i64 m, .int .i64 r, .int .i64 s, .int .i64 v, .slice A n c] 32)
  have B0 := (Below.refl w.heap.size w).alloc (Nat.le_refl _) (.cells #[.int .i64 k, .int .i64 q, .int .i64 t, .int .i64 m, .int .i64 r, .int .i64 s, .int .i64 v, .slice A n c] 32)
  have z0 : w.heap.size < (w.alloc (.cells #[.int .i64 k, .int .i64 q, .int .i64 t, .int .i64 m, .int .i64 r, .int .i64 s, .int .i64 v, .slice A n c] 32)).heap.size := by simp
  have hI := h.alloc hB (.cells #[.int .i64 k, .int .i64 q, .int .i64 t, .int .i64 m, .int .i64 r, .int .i64 s, .int .i64 v, .slice A n c] 32)
  have hnl : xs.length = n := h.len
  have H0 := Lib.hid h0
  clear h0
  go_enter Try.func54, Try.ntmps54
  go_upto_region 1 with fail
  generalize hg : w.heap.size = g at *
  generalize World.alloc _ _ = W at *
  have O1 := lit_own1 W (k * 64 + q * 8) (g + 1) z0
  have R1 := (Below.heap_alloc W (.cells #[.int .i64 (k * 64 + q * 8)] 2) g z0).trans R
  have B1 := B0.alloc (by omega) (.cells #[.int .i64 (k * 64 + q * 8)] 2)
  have z1 : g + 1 < (W.alloc (.cells #[.int .i64 (k * 64 + q * 8)] 2)).heap.size := by simp; omega
  have I1 := hI.alloc (by omega) (.cells #[.int .i64 (k * 64 + q * 8)] 2)
  obtain ⟨c0, c1, c2, c3, c4, c5, c6, c7⟩ := fr_cells R
  have HL := Lib.hid hnl
  clear h hI hnl
  go_upto_region 2 with fail
  clear c0 c1 c2 c3 c4 c5 c6 c7 R B0
  obtain ⟨c0, c1, c2, c3, c4, c5, c6, c7⟩ := fr_cells R1
  generalize hW1 : W.alloc _ = W1 at *
  clear hW1
  have O1 := O1.less (base' := g + 1) (Nat.le_refl _)
  generalize Value.slice (some ⟨W.heap.size, 0, none⟩) 1 1 = v1 at *
  go_wp2_with (first
    | (go_at_call 73; refine (i_hasS_no k _ H0.out).mono ?_; rintro e w' ⟨rfl, rfl⟩)
    | (go_at_call 97; refine (i_hasD_yes k _ (.inl H0.out)).mono ?_; rintro e w' ⟨rfl, rfl⟩))
  have zz := Below.lt_of' R1
  have c7 := (fr_cells R1).2.2.2.2.2.2.2
  have zg : g < W1.heap.size := zz
  have zg2 : W1.heap.size ≠ g := by omega
  have z9 : g + 1 ≤ W1.heap.size := by omega
  have HR := Lib.hid R1
  have HB := Lib.hid B1
  clear R1 B1 c0 c1 c2 c3 c4 c5 c6
  go_region_held_law (fun w' => w'.cell? ⟨g, 7, none⟩ = some (.slice A n c)) (go_keep)
    (first
      | (refine step_app rfl _ _ 24 rfl (g + 1) Try.underlying24 int_info _ ([k * 64 + q * 8] ++ [(n : Int)]) rfl O5 _ _ _ _ xs rfl I5 (by have := HL.out; simp [bytesN_len]; omega) (by omega) ?_; intro v6 w6 O6 g6 _; have b6 := app_below O6x g6 (by omega); have z6 : w6.cell? ⟨g, 7, none⟩ = some (.slice A n c) := (b6.cell (show g < g + 1 by omega)).trans z5)
      | (refine step_app rfl _ _ 24 rfl (g + 1) Try.underlying24 int_info _ [k * 64 + q * 8] rfl (O1.drew.alloc _) _ _ 1 1 [(n : Int)] rfl (lit_ints W1.drew [(n : Int)] 2 (by simp)) (by simp) (show g + 1 ≤ (W1.alloc _).heap.size by rw [World.size_alloc]; omega) ?_; intro v5 w5 O5 g5 _; have b5 := app_below (O1.drew.alloc _) g5 (show g + 1 ≤ (W1.alloc _).heap.size by rw [World.size_alloc]; omega); have z5 : w5.cell? ⟨g, 7, none⟩ = some (.slice A n c) := (b5.cell (show g < g + 1 by omega)).trans ((World.cell?_alloc_lt W1.drew _ ⟨g, 7, none⟩ zg).trans c7); have I5 := ((I1.drew.alloc (show B ≤ W1.heap.size by omega) _).below' (show B ≤ g + 1 by omega) b5 : IntsAt w5 _ A n c xs); have y5 : W1.heap.size + 1 ≤ w5.heap.size := (World.size_alloc W1 _) ▸ b5.size; have O6x := O5))
  go_wp2
  go_ret
  refine ⟨_, rfl, ?_, ?_⟩
  · have := O6.less (base' := g) (by omega)
    rw [hg]; simpa using this
  · rw [hg]
    exact ((HB.out.drew.alloc (show g ≤ W1.heap.size by omega) _).trans (b5.mono (by omega))).trans (b6.mono (by omega))
theorem i_body (k q t m r s v : Int) (A : Option Addr) (n c : Nat) (xs : List Int) (B : Nat) (w : World) (h : IntsAt w B A n c xs) (hB : B ≤ w.heap.size) (hf : frOk k q t m r s v xs = true) :
    Calls Try.prog 54 #[.agg #[.int .i64 k, .int .i64 q, .int .i64 t, .int .i64 m, .int .i64 r, .int .i64 s, .int .i64 v, .slice A n c]] w fun e w' => ∃ u, e = .returned u ∧ IOwn w' w.heap.size u (bodyL k q t m r s v xs) ∧ Below w.heap.size w w' := by
  obtain ⟨hk, hq, hz, -, hs, -⟩ := fr_st hf
  obtain ⟨t0, t1, m0, m1, r0, r1, s0, s1, v0, v1⟩ := stOk_bd hs
  have hz2 := sizeOk_bd hz
  have hl := h.len
  have hn : n ≤ 32 := by omega
  obtain ⟨t, rfl⟩ := Int.eq_ofNat_of_zero_le t0
  obtain ⟨m, rfl⟩ := Int.eq_ofNat_of_zero_le m0
  obtain ⟨r, rfl⟩ := Int.eq_ofNat_of_zero_le r0
  obtain ⟨s, rfl⟩ := Int.eq_ofNat_of_zero_le s0
  obtain ⟨v, rfl⟩ := Int.eq_ofNat_of_zero_le v0
  unfold bodyL
  simp only [Int.toNat_natCast]
  by_cases h0 : k = 0
  · refine (i_body_da k q t m r s v A n c xs B w h hB hn hk hq (by omega) (by omega) (by omega) (by omega) (by omega) h0).mono ?_
    rintro e w' ⟨u, rfl, ho, hb⟩
    exact ⟨u, rfl, by simpa [h0, hl] using ho, hb⟩
  · by_cases h2 : k = 2
    · refine (i_body_st_da k q t m r s v A n c xs B w h hB hn hk hq (by omega) (by omega) (by omega) (by omega) (by omega) h0 h2).mono ?_
      rintro e w' ⟨u, rfl, ho, hb⟩
      exact ⟨u, rfl, by simpa [h2, hl] using ho, hb⟩
    · refine (i_body_st k q t m r s v A n c xs B w h hB hn hk hq (by omega) (by omega) (by omega) (by omega) (by omega) h0 h2).mono ?_
      rintro e w' ⟨u, rfl, ho, hb⟩
      exact ⟨u, rfl, by simpa [h0, h2] using ho, hb⟩
end Go.Proofs.Ytpcdachkmekjgaa

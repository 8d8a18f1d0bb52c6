/- Contracts of seal, SealFrame, SealNumber. -/
import Derived.Test.YtpcdachkmekjgaaSeal
import Derived.Test.YtpcdachkmekjgaaFrmH
import Derived.Deep.RegionHeld3
import Derived.BigRegion
namespace Go.Proofs.Ytpcdachkmekjgaa
open Go.RowKit
set_option linter.unusedSimpArgs false
set_option linter.unusedVariables false
theorem idOk_bd {id : Int} (h : idOk id = true) : 0 ≤ id ∧ id ≤ 16777215 := of_decide_eq_true h
theorem and255 (a : Nat) (h : a < 9223372036854775808) : bits .and .i64 (a : Int) 255 = ((a % 256 : Nat) : Int) := by
  have h9 := and_nat a 255 h (by omega)
  rw [show (255 : Nat) = 2 ^ 8 - 1 by decide, Nat.and_two_pow_sub_one_eq_mod] at h9
  exact h9
theorem i_threeBytes (x : Nat) (w : World) (hx : x < 16777216) : Calls Try.prog 72 #[.int .i64 x] w fun e w' => ∃ u, e = .returned u ∧ IOwn w' w.heap.size u (three x) ∧ Below w.heap.size w w' := by
  have e1 : bits .and .i64 ((x : Int) / 256) 255 = ((x / 256 % 256 : Nat) : Int) := by
    have := and255 (x / 256) (by omega)
    rwa [show ((x / 256 : Nat) : Int) = (x : Int) / 256 by omega] at this
  have e2 := and255 x (by omega)
  have o := lit_own w (three x) w.heap.size (Nat.le_refl _) (by simp [three])
  go_enter Try.func72, Try.ntmps72
  go_wp2
  go_ret
  exact ⟨_, rfl, by simpa [three] using o, (Below.refl _ _).alloc (Nat.le_refl _) _⟩
/-- A sealed frame. -/
def sealL (k q t m r s v : Int) (xs : List Int) (id T M R S V : Int) : List Int := bodyL k q t m r s v xs ++ three (chkN k (bodyL k q t m r s v xs) id.toNat T M R S V)
theorem body_small {k q t m r s v : Int} {xs : List Int} (h : frOk k q t m r s v xs = true) : (bodyL k q t m r s v xs).length ≤ 42 := by
  have hz := sizeOk_bd (fr_st h).2.2.1
  rw [bodyL_len]
  split <;> split <;> omega
theorem getD_of_mem {xs : List Int} {a b : Int} (h : ∀ x ∈ xs, a ≤ x ∧ x ≤ b) (k : Nat) (hk : k < xs.length) : a ≤ xs.getD k 0 ∧ xs.getD k 0 ≤ b := by
  rw [List.getD_eq_getElem?_getD, List.getElem?_eq_getElem hk]
  exact h _ (List.getElem_mem hk)
theorem i_check (k : Int) (A : Option Addr) (n c : Nat) (xs : List Int) (id T M R S V : Int) (B : Nat) (w : World) (h : IntsAt w B A n c xs) (hB : B ≤ w.heap.size) (hb : ∀ x ∈ xs, 0 ≤ x ∧ x ≤ 255) (hn : n ≤ 1000) (hi : idOk id = true) (hs : stOk T M R S V = true) :
    Calls Try.prog 63 #[.int .i64 k, .slice A n c, .int .i64 id, .agg #[.int .i64 T, .int .i64 M, .int .i64 R, .int .i64 S, .int .i64 V]] w fun e w' => e = .returned (.int .i64 ((chkN k xs id.toNat T M R S V : Nat) : Int)) ∧ Below w.heap.size w w' := by
  have hi' := idOk_bd hi
  obtain ⟨t0, t1, m0, m1, r0, r1, s0, s1, v0, v1⟩ := stOk_bd hs
  obtain ⟨id, rfl⟩ := Int.eq_ofNat_of_zero_le hi'.1
  obtain ⟨T, rfl⟩ := Int.eq_ofNat_of_zero_le t0
  obtain ⟨M, rfl⟩ := Int.eq_ofNat_of_zero_le m0
  obtain ⟨R, rfl⟩ := Int.eq_ofNat_of_zero_le r0
  obtain ⟨S, rfl⟩ := Int.eq_ofNat_of_zero_le s0
  obtain ⟨V, rfl⟩ := Int.eq_ofNat_of_zero_le v0
  have hb' : ∀ j, j < n → 0 ≤ xs.getD j 0 ∧ xs.getD j 0 ≤ 255 := fun j hj => getD_of_mem hb j (by rw [h.len]; exact hj)
  unfold chkN
  simp only [Int.toNat_natCast]
  by_cases hk : k = 0
  · subst hk
    exact i_check_eq A n c xs id T M R S V B w h hB hb' hn (by omega) (by omega) (by omega) (by omega) (by omega) (by omega)
  · rw [if_neg hk]
    exact i_check_ne k A n c xs id T M R S V B w h hB hb' hn (by omega) hk
theorem s_check (k : Int) (A : Option Addr) (n c : Nat) (xs : List Int) (id T M R S V : Int) (B : Nat) (w : World) (h : IntsAt w B A n c xs) (hB : B ≤ w.heap.size) (hb : ∀ x ∈ xs, 0 ≤ x ∧ x ≤ 255) (hn : n ≤ 1000) (hi : idOk id = true) (hs : stOk T M R S V = true) :
    Calls Try.prog 61 #[.int .i64 k, .slice A n c, .int .i64 id, .agg #[.int .i64 T, .int .i64 M, .int .i64 R, .int .i64 S, .int .i64 V]] w fun e w' => e = .returned (.int .i64 ((chkN k xs id.toNat T M R S V : Nat) : Int)) ∧ Below w.heap.size w w' := by
  have hi' := idOk_bd hi
  obtain ⟨t0, t1, m0, m1, r0, r1, s0, s1, v0, v1⟩ := stOk_bd hs
  obtain ⟨id, rfl⟩ := Int.eq_ofNat_of_zero_le hi'.1
  obtain ⟨T, rfl⟩ := Int.eq_ofNat_of_zero_le t0
  obtain ⟨M, rfl⟩ := Int.eq_ofNat_of_zero_le m0
  obtain ⟨R, rfl⟩ := Int.eq_ofNat_of_zero_le r0
  obtain ⟨S, rfl⟩ := Int.eq_ofNat_of_zero_le s0
  obtain ⟨V, rfl⟩ := Int.eq_ofNat_of_zero_le v0
  have hb' : ∀ j, j < n → 0 ≤ xs.getD j 0 ∧ xs.getD j 0 ≤ 255 := fun j hj => getD_of_mem hb j (by rw [h.len]; exact hj)
  unfold chkN
  simp only [Int.toNat_natCast]
  by_cases hk : k = 0
  · subst hk
    exact s_check_eq A n c xs id T M R S V B w h hB hb' hn (by omega) (by omega) (by omega) (by omega) (by omega) (by omega)
  · rw [if_neg hk]
    exact s_check_ne k A n c xs id T M R S V B w h hB hb' hn (by omega) hk
set_option maxHeartbeats 2000000 in
theorem i_seal (k q t m r s v : Int) (A : Option Addr) (n c : Nat) (xs : List Int) (id : Int) (T M R S V : Int) (B : Nat) (w : World) (h : IntsAt w B A n c xs) (hB : B ≤ w.heap.size) (hf : frOk k q t m r s v xs = true) (hi : idOk id = true) (hs : stOk T M R S V = true) :
    Calls Try.prog 65 #[.agg #[.int .i64 k, .int .i64 q, .int .i64 t, .int .i64 m, .int .i64 r, .int .i64 s, .int .i64 v, .slice A n c], .int .i64 id, .agg #[.int .i64 T, .int .i64 M, .int .i64 R, .int .i64 S, .int .i64 V]] w fun e w' => ∃ u, e = .returned u ∧ IOwn w' w.heap.size u (sealL k q t m r s v xs id T M R S V) ∧ Below w.heap.size w w' := by
  have hI := (h.alloc hB (.cells #[.int .i64 k, .int .i64 q, .int .i64 t, .int .i64 m, .int .i64 r, .int .i64 s, .int .i64 v, .slice A n c] 32)).alloc (by simp; omega) (.cells #[.int .i64 T, .int .i64 M, .int .i64 R, .int .i64 S, .int .i64 V] 30)
  have B0 := ((Below.refl w.heap.size w).alloc (Nat.le_refl _) (.cells #[.int .i64 k, .int .i64 q, .int .i64 t, .int .i64 m, .int .i64 r, .int .i64 s, .int .i64 v, .slice A n c] 32)).alloc (by simp) (.cells #[.int .i64 T, .int .i64 M, .int .i64 R, .int .i64 S, .int .i64 V] 30)
  obtain ⟨R0, R1⟩ := alloc2 w (.cells #[.int .i64 k, .int .i64 q, .int .i64 t, .int .i64 m, .int .i64 r, .int .i64 s, .int .i64 v, .slice A n c] 32) (.cells #[.int .i64 T, .int .i64 M, .int .i64 R, .int .i64 S, .int .i64 V] 30)
  have z0 : w.heap.size + 2 = ((w.alloc (.cells #[.int .i64 k, .int .i64 q, .int .i64 t, .int .i64 m, .int .i64 r, .int .i64 s, .int .i64 v, .slice A n c] 32)).alloc (.cells #[.int .i64 T, .int .i64 M, .int .i64 R, .int .i64 S, .int .i64 V] 30)).heap.size := by simp
  obtain ⟨c0, c1, c2, c3, c4, c5, c6, c7⟩ := fr_cells R0
  obtain ⟨d0, d1, d2, d3, d4⟩ := cells5 R1
  generalize hW : World.alloc _ _ = W at *
  have hbl := body_small hf
  have hbm := bodyL_mem k q t m r s v xs hf
  have hlt := chkN_lt k (bodyL k q t m r s v xs) id.toNat T M R S V (by have := idOk_bd hi; omega)
  have HC := Lib.hid (i_body k q t m r s v A n c xs B W hI (by omega) hf)
  have HK := Lib.hid (fun A' n' c' B' W' hI' hB' hn' => i_check k A' n' c' (bodyL k q t m r s v xs) id T M R S V B' W' hI' hB' hbm hn' hi hs)
  clear hf hi hs hbm h hI
  unfold sealL
  generalize bodyL k q t m r s v xs = L at *
  generalize chkN k L id.toNat T M R S V = C at *
  go_enter Try.func65, Try.ntmps65
  go_upto_region 1 with fail
  try rw [hW]
  clear hW
  go_wp2_with (first
    | (go_at_call 54; refine HC.out.mono ?_; rintro e w1 ⟨u1, rfl, o1, b1⟩; obtain ⟨A1, cc1, rfl, i1⟩ := o1.ints (by omega); have z1 := b1.size; have B1 := B0.trans (b1.mono (by omega)); obtain ⟨c0, c1, c2, c3, c4, c5, c6, c7⟩ := fr_cells ((b1.block w.heap.size (by omega)).trans R0); obtain ⟨d0, d1, d2, d3, d4⟩ := cells5 ((b1.block (w.heap.size + 1) (by omega)).trans R1))
    | (go_at_call 63; refine (HK.out _ _ _ _ _ i1 (Nat.le_refl _) (by omega)).mono ?_; rintro e w2 ⟨rfl, b2⟩; have z2 := b2.size; have o2 := o1.below_ b2; have B2 := B1.trans (b2.mono (by omega)))
    | (go_at_call 72; refine (i_threeBytes C _ hlt).mono ?_; rintro e w3 ⟨u3, rfl, o3, b3⟩; obtain ⟨A3, cc3, rfl, i3⟩ := o3.ints (by simp [three]); have z3 := b3.size; have o23 := o2.below_ b3; have B3 := B2.trans (b3.mono (by omega)))
    | (at_builtin; refine wpList_app _ rfl _ _ 24 rfl W.heap.size Try.underlying24 int_info _ L rfl o23 _ _ _ _ (three C) rfl i3 (by simp [three]; omega) (by omega) ?_; intro v4 w4 O4 g4 _; have b4 := app_below o23 g4 (by omega); have B4 := B3.trans (b4.mono (by omega))))
  go_ret
  exact ⟨_, rfl, O4.less (by omega), B4⟩
set_option maxHeartbeats 2000000 in
theorem s_seal (k q t m r s v : Int) (A : Option Addr) (n c : Nat) (xs : List Int) (id : Int) (T M R S V : Int) (B : Nat) (w : World) (h : IntsAt w B A n c xs) (hB : B ≤ w.heap.size) (hf : frOk k q t m r s v xs = true) (hi : idOk id = true) (hs : stOk T M R S V = true) :
    Calls Try.prog 64 #[.agg #[.int .i64 k, .int .i64 q, .int .i64 t, .int .i64 m, .int .i64 r, .int .i64 s, .int .i64 v, .slice A n c], .int .i64 id, .agg #[.int .i64 T, .int .i64 M, .int .i64 R, .int .i64 S, .int .i64 V]] w fun e w' => ∃ u, e = .returned u ∧ IOwn w' w.heap.size u (sealL k q t m r s v xs id T M R S V) ∧ Below w.heap.size w w' := by
  have hI := (h.alloc hB (.cells #[.int .i64 k, .int .i64 q, .int .i64 t, .int .i64 m, .int .i64 r, .int .i64 s, .int .i64 v, .slice A n c] 32)).alloc (by simp; omega) (.cells #[.int .i64 T, .int .i64 M, .int .i64 R, .int .i64 S, .int .i64 V] 30)
  have B0 := ((Below.refl w.heap.size w).alloc (Nat.le_refl _) (.cells #[.int .i64 k, .int .i64 q, .int .i64 t, .int .i64 m, .int .i64 r, .int .i64 s, .int .i64 v, .slice A n c] 32)).alloc (by simp) (.cells #[.int .i64 T, .int .i64 M, .int .i64 R, .int .i64 S, .int .i64 V] 30)
  obtain ⟨R0, R1⟩ := alloc2 w (.cells #[.int .i64 k, .int .i64 q, .int .i64 t, .int .i64 m, .int .i64 r, .int .i64 s, .int .i64 v, .slice A n c] 32) (.cells #[.int .i64 T, .int .i64 M, .int .i64 R, .int .i64 S, .int .i64 V] 30)
  have z0 : w.heap.size + 2 = ((w.alloc (.cells #[.int .i64 k, .int .i64 q, .int .i64 t, .int .i64 m, .int .i64 r, .int .i64 s, .int .i64 v, .slice A n c] 32)).alloc (.cells #[.int .i64 T, .int .i64 M, .int .i64 R, .int .i64 S, .int .i64 V] 30)).heap.size := by simp
  obtain ⟨c0, c1, c2, c3, c4, c5, c6, c7⟩ := fr_cells R0
  obtain ⟨d0, d1, d2, d3, d4⟩ := cells5 R1
  generalize hW : World.alloc _ _ = W at *
  have hbl := body_small hf
  have hbm := bodyL_mem k q t m r s v xs hf
  have hlt := chkN_lt k (bodyL k q t m r s v xs) id.toNat T M R S V (by have := idOk_bd hi; omega)
  have HC := Lib.hid (s_body k q t m r s v A n c xs B W hI (by omega) hf)
  have HK := Lib.hid (fun A' n' c' B' W' hI' hB' hn' => s_check k A' n' c' (bodyL k q t m r s v xs) id T M R S V B' W' hI' hB' hbm hn' hi hs)
  clear hf hi hs hbm h hI
  unfold sealL
  generalize bodyL k q t m r s v xs = L at *
  generalize chkN k L id.toNat T M R S V = C at *
  go_enter Try.func64, Try.ntmps64
  go_upto_region 1 with fail
  try rw [hW]
  clear hW
  have e1 : (C : Int) / 65536 = ((C / 65536 : Nat) : Int) := by omega
  have e2 : (C : Int) / 256 % 256 = ((C / 256 % 256 : Nat) : Int) := by omega
  have e3 : (C : Int) % 256 = ((C % 256 : Nat) : Int) := by omega
  have HE := Lib.hid e1; have HE2 := Lib.hid e2; have HE3 := Lib.hid e3; clear e1 e2 e3
  go_wp2_with (first
    | (go_at_call 53; refine HC.out.mono ?_; rintro e w1 ⟨u1, rfl, o1, b1⟩; obtain ⟨A1, cc1, rfl, i1⟩ := o1.ints (by omega); have z1 := b1.size; have B1 := B0.trans (b1.mono (by omega)); obtain ⟨c0, c1, c2, c3, c4, c5, c6, c7⟩ := fr_cells ((b1.block w.heap.size (by omega)).trans R0); obtain ⟨d0, d1, d2, d3, d4⟩ := cells5 ((b1.block (w.heap.size + 1) (by omega)).trans R1))
    | (go_at_call 61; refine (HK.out _ _ _ _ _ i1 (Nat.le_refl _) (by omega)).mono ?_; rintro e w2 ⟨rfl, b2⟩; have z2 := b2.size; have o2 := o1.below_ b2; have B2 := B1.trans (b2.mono (by omega)))
    | (at_builtin; refine wpList_app _ rfl _ _ 24 rfl W.heap.size Try.underlying24 int_info _ L rfl (o2.alloc _) _ _ 3 3 [(C : Int) / 65536, (C : Int) / 256 % 256, (C : Int) % 256] rfl (lit_ints w2 [(C : Int) / 65536, (C : Int) / 256 % 256, (C : Int) % 256] 2 (by simp)) (by omega) (by rw [World.size_alloc]; omega) ?_; intro v4 w4 O4 g4 _; have b4 := app_below (o2.alloc _) g4 (by rw [World.size_alloc]; omega); have B4 := (B2.alloc (by omega) _).trans (b4.mono (by omega))))
  go_ret
  refine ⟨_, rfl, ?_, B4⟩
  have := O4.less (base' := w.heap.size) (by omega)
  rw [HE.out, HE2.out, HE3.out] at this
  exact this
theorem slC_zero {f st : Bool} {id : Int} (h : slC f st id = 0) : f = true ∧ st = true ∧ idOk id = true := by
  unfold slC at h
  cases f <;> cases st <;> cases hi : idOk id <;> simp [hi] at h ⊢
set_option maxHeartbeats 2000000 in
theorem i_SealFrame (k q t m r s v : Int) (A : Option Addr) (n c : Nat) (xs : List Int) (id : Int) (T M R S V : Int) (B : Nat) (w : World) (h : IntsAt w B A n c xs) (hB : B ≤ w.heap.size) :
    Calls Try.prog 31 #[.agg #[.int .i64 k, .int .i64 q, .int .i64 t, .int .i64 m, .int .i64 r, .int .i64 s, .int .i64 v, .slice A n c], .int .i64 id, .agg #[.int .i64 T, .int .i64 M, .int .i64 R, .int .i64 S, .int .i64 V]] w fun e w' => ∃ u, e = .returned (.tuple #[u, .int .i64 (slC (frOk k q t m r s v xs) (stOk T M R S V) id)]) ∧ IOwn w' w.heap.size u (if slC (frOk k q t m r s v xs) (stOk T M R S V) id = 0 then sealL k q t m r s v xs id T M R S V else []) ∧ Below w.heap.size w w' := by
  have hI := (h.alloc hB (.cells #[.int .i64 k, .int .i64 q, .int .i64 t, .int .i64 m, .int .i64 r, .int .i64 s, .int .i64 v, .slice A n c] 32)).alloc (by simp; omega) (.cells #[.int .i64 T, .int .i64 M, .int .i64 R, .int .i64 S, .int .i64 V] 30)
  have B0 := ((Below.refl w.heap.size w).alloc (Nat.le_refl _) (.cells #[.int .i64 k, .int .i64 q, .int .i64 t, .int .i64 m, .int .i64 r, .int .i64 s, .int .i64 v, .slice A n c] 32)).alloc (by simp) (.cells #[.int .i64 T, .int .i64 M, .int .i64 R, .int .i64 S, .int .i64 V] 30)
  obtain ⟨R0, R1⟩ := alloc2 w (.cells #[.int .i64 k, .int .i64 q, .int .i64 t, .int .i64 m, .int .i64 r, .int .i64 s, .int .i64 v, .slice A n c] 32) (.cells #[.int .i64 T, .int .i64 M, .int .i64 R, .int .i64 S, .int .i64 V] 30)
  have z0 : w.heap.size + 2 = ((w.alloc (.cells #[.int .i64 k, .int .i64 q, .int .i64 t, .int .i64 m, .int .i64 r, .int .i64 s, .int .i64 v, .slice A n c] 32)).alloc (.cells #[.int .i64 T, .int .i64 M, .int .i64 R, .int .i64 S, .int .i64 V] 30)).heap.size := by simp
  obtain ⟨c0, c1, c2, c3, c4, c5, c6, c7⟩ := fr_cells R0
  obtain ⟨d0, d1, d2, d3, d4⟩ := cells5 R1
  generalize hW : World.alloc _ _ = W at *
  have HC := Lib.hid (i_sealCode k q t m r s v A n c xs id T M R S V B W hI (by omega))
  by_cases h0 : slC (frOk k q t m r s v xs) (stOk T M R S V) id = 0
  · obtain ⟨hf, hs, hi⟩ := slC_zero h0
    rw [h0] at HC
    rw [h0, if_pos rfl]
    have HS := Lib.hid (fun W' hI' hB' => i_seal k q t m r s v A n c xs id T M R S V B W' hI' hB' hf hi hs)
    clear h0 hf hs hi h
    go_enter Try.func31, Try.ntmps31
    go_upto_region 1 with fail
    try rw [hW]
    clear hW
    go_wp2_with (first
      | (go_at_call 62; refine HC.out.mono ?_; rintro e w1 ⟨rfl, b1⟩; have z1 := b1.size; have B1 := B0.trans (b1.mono (by omega)); have I1 := hI.below' (by omega) b1; obtain ⟨c0, c1, c2, c3, c4, c5, c6, c7⟩ := fr_cells ((b1.block w.heap.size (by omega)).trans R0); obtain ⟨d0, d1, d2, d3, d4⟩ := cells5 ((b1.block (w.heap.size + 1) (by omega)).trans R1))
      | (go_at_call 65; refine (HS.out _ I1 (by omega)).mono ?_; rintro e w2 ⟨u, rfl, o2, b2⟩))
    go_ret2
    exact ⟨_, rfl, o2.less (by omega), B1.trans (b2.mono (by omega))⟩
  · rw [if_neg h0]
    generalize slC (frOk k q t m r s v xs) (stOk T M R S V) id = C at *
    have h1 : (C != 0) = true := by simpa using h0
    clear h0 h
    go_enter Try.func31, Try.ntmps31
    go_upto_region 1 with fail
    try rw [hW]
    clear hW
    go_wp2_with (first
      | (go_at_call 62; refine HC.out.mono ?_; rintro e w1 ⟨rfl, b1⟩))
    go_ret2
    exact ⟨_, rfl, IOwn.nil _ _, B0.trans (b1.mono (by omega))⟩
set_option maxHeartbeats 2000000 in
theorem i_SealNumber (k q t m r s v : Int) (A : Option Addr) (n c : Nat) (xs : List Int) (id : Int) (T M R S V : Int) (B : Nat) (w : World) (h : IntsAt w B A n c xs) (hB : B ≤ w.heap.size) :
    Calls Try.prog 29 #[.agg #[.int .i64 k, .int .i64 q, .int .i64 t, .int .i64 m, .int .i64 r, .int .i64 s, .int .i64 v, .slice A n c], .int .i64 id, .agg #[.int .i64 T, .int .i64 M, .int .i64 R, .int .i64 S, .int .i64 V]] w fun e w' => e = .returned (.tuple #[.int .i64 (if slC (frOk k q t m r s v xs) (stOk T M R S V) id = 0 then ((chkN k (bodyL k q t m r s v xs) id.toNat T M R S V : Nat) : Int) else 0), .int .i64 (slC (frOk k q t m r s v xs) (stOk T M R S V) id)]) ∧ Below w.heap.size w w' := by
  have hI := (h.alloc hB (.cells #[.int .i64 k, .int .i64 q, .int .i64 t, .int .i64 m, .int .i64 r, .int .i64 s, .int .i64 v, .slice A n c] 32)).alloc (by simp; omega) (.cells #[.int .i64 T, .int .i64 M, .int .i64 R, .int .i64 S, .int .i64 V] 30)
  have B0 := ((Below.refl w.heap.size w).alloc (Nat.le_refl _) (.cells #[.int .i64 k, .int .i64 q, .int .i64 t, .int .i64 m, .int .i64 r, .int .i64 s, .int .i64 v, .slice A n c] 32)).alloc (by simp) (.cells #[.int .i64 T, .int .i64 M, .int .i64 R, .int .i64 S, .int .i64 V] 30)
  obtain ⟨R0, R1⟩ := alloc2 w (.cells #[.int .i64 k, .int .i64 q, .int .i64 t, .int .i64 m, .int .i64 r, .int .i64 s, .int .i64 v, .slice A n c] 32) (.cells #[.int .i64 T, .int .i64 M, .int .i64 R, .int .i64 S, .int .i64 V] 30)
  have z0 : w.heap.size + 2 = ((w.alloc (.cells #[.int .i64 k, .int .i64 q, .int .i64 t, .int .i64 m, .int .i64 r, .int .i64 s, .int .i64 v, .slice A n c] 32)).alloc (.cells #[.int .i64 T, .int .i64 M, .int .i64 R, .int .i64 S, .int .i64 V] 30)).heap.size := by simp
  obtain ⟨c0, c1, c2, c3, c4, c5, c6, c7⟩ := fr_cells R0
  obtain ⟨d0, d1, d2, d3, d4⟩ := cells5 R1
  generalize hW : World.alloc _ _ = W at *
  have HC := Lib.hid (i_sealCode k q t m r s v A n c xs id T M R S V B W hI (by omega))
  by_cases h0 : slC (frOk k q t m r s v xs) (stOk T M R S V) id = 0
  · obtain ⟨hf, hs, hi⟩ := slC_zero h0
    rw [h0] at HC
    rw [h0, if_pos rfl]
    have hbl := body_small hf
    have hbm := bodyL_mem k q t m r s v xs hf
    have HS := Lib.hid (fun W' hI' hB' => i_body k q t m r s v A n c xs B W' hI' hB' hf)
    have HK := Lib.hid (fun A' n' c' B' W' hI' hB' hn' => i_check k A' n' c' (bodyL k q t m r s v xs) id T M R S V B' W' hI' hB' hbm hn' hi hs)
    clear h0 hf hs hi h hbm
    generalize bodyL k q t m r s v xs = L at *
    generalize chkN k L id.toNat T M R S V = C at *
    go_enter Try.func29, Try.ntmps29
    go_upto_region 1 with fail
    try rw [hW]
    clear hW
    go_wp2_with (first
      | (go_at_call 62; refine HC.out.mono ?_; rintro e w1 ⟨rfl, b1⟩; have z1 := b1.size; have B1 := B0.trans (b1.mono (by omega)); have I1 := hI.below' (by omega) b1; have R01 := (b1.block w.heap.size (by omega)).trans R0; have R11 := (b1.block (w.heap.size + 1) (by omega)).trans R1; obtain ⟨c0, c1, c2, c3, c4, c5, c6, c7⟩ := fr_cells R01; obtain ⟨d0, d1, d2, d3, d4⟩ := cells5 R11))
    have zz : w1.drew.heap.size = w1.heap.size := rfl
    go_region_held3 (fun w' => w'.cell? ⟨w.heap.size, 0, none⟩ = some (.int .i64 k) ∧ w'.cell? ⟨w.heap.size, 1, none⟩ = some (.int .i64 q) ∧ w'.cell? ⟨w.heap.size, 2, none⟩ = some (.int .i64 t) ∧ w'.cell? ⟨w.heap.size, 3, none⟩ = some (.int .i64 m) ∧ w'.cell? ⟨w.heap.size, 4, none⟩ = some (.int .i64 r) ∧ w'.cell? ⟨w.heap.size, 5, none⟩ = some (.int .i64 s) ∧ w'.cell? ⟨w.heap.size, 6, none⟩ = some (.int .i64 v) ∧ w'.cell? ⟨w.heap.size, 7, none⟩ = some (.slice A n c) ∧ w'.cell? ⟨w.heap.size + 1, 0, none⟩ = some (.int .i64 T) ∧ w'.cell? ⟨w.heap.size + 1, 1, none⟩ = some (.int .i64 M) ∧ w'.cell? ⟨w.heap.size + 1, 2, none⟩ = some (.int .i64 R) ∧ w'.cell? ⟨w.heap.size + 1, 3, none⟩ = some (.int .i64 S) ∧ w'.cell? ⟨w.heap.size + 1, 4, none⟩ = some (.int .i64 V)) (go_keep) (first
      | (go_at_call 63; refine (HK.out _ _ _ _ _ i2 (Nat.le_refl _) (by omega)).mono ?_; rintro e w3 ⟨rfl, b3⟩; have z3 := b3.size; have B3 := B2.trans (b3.mono (by omega)); obtain ⟨c0, c1, c2, c3, c4, c5, c6, c7⟩ := fr_cells ((b3.block w.heap.size (by omega)).trans R02); obtain ⟨d0, d1, d2, d3, d4⟩ := cells5 ((b3.block (w.heap.size + 1) (by omega)).trans R12))
      | (go_at_call 54; refine (HS.out _ I1.drew (show B ≤ w1.heap.size by omega)).mono ?_; rintro e w2 ⟨u, rfl, o2, b2⟩; obtain ⟨A2, cc2, rfl, i2⟩ := o2.ints (by omega); have z2 : w1.heap.size ≤ w2.heap.size := b2.size; have B2 := B1.drew.trans (b2.mono (show w.heap.size ≤ w1.heap.size by omega)); have R02 := (b2.block w.heap.size (show w.heap.size < w1.heap.size by omega)).trans R01; have R12 := (b2.block (w.heap.size + 1) (show w.heap.size + 1 < w1.heap.size by omega)).trans R11; obtain ⟨c0, c1, c2, c3, c4, c5, c6, c7⟩ := fr_cells R02; obtain ⟨d0, d1, d2, d3, d4⟩ := cells5 R12))
    go_wp2
    go_ret2
    exact ⟨rfl, B3⟩
  · rw [if_neg h0]
    generalize slC (frOk k q t m r s v xs) (stOk T M R S V) id = C at *
    have h1 : (C != 0) = true := by simpa using h0
    clear h0 h
    go_enter Try.func29, Try.ntmps29
    go_upto_region 1 with fail
    try rw [hW]
    clear hW
    go_wp2_with (first
      | (go_at_call 62; refine HC.out.mono ?_; rintro e w1 ⟨rfl, b1⟩))
    go_ret2
    exact ⟨rfl, B0.trans (b1.mono (by omega))⟩
set_option maxHeartbeats 2000000 in
theorem s_SealFrame (k q t m r s v : Int) (A : Option Addr) (n c : Nat) (xs : List Int) (id : Int) (T M R S V : Int) (B : Nat) (w : World) (h : IntsAt w B A n c xs) (hB : B ≤ w.heap.size) :
    Calls Try.prog 30 #[.agg #[.int .i64 k, .int .i64 q, .int .i64 t, .int .i64 m, .int .i64 r, .int .i64 s, .int .i64 v, .slice A n c], .int .i64 id, .agg #[.int .i64 T, .int .i64 M, .int .i64 R, .int .i64 S, .int .i64 V]] w fun e w' => ∃ u, e = .returned (.tuple #[u, .int .i64 (slC (frOk k q t m r s v xs) (stOk T M R S V) id)]) ∧ IOwn w' w.heap.size u (if slC (frOk k q t m r s v xs) (stOk T M R S V) id = 0 then sealL k q t m r s v xs id T M R S V else []) ∧ Below w.heap.size w w' := by
  have hI := (h.alloc hB (.cells #[.int .i64 k, .int .i64 q, .int .i64 t, .int .i64 m, .int .i64 r, .int .i64 s, .int .i64 v, .slice A n c] 32)).alloc (by simp; omega) (.cells #[.int .i64 T, .int .i64 M, .int .i64 R, .int .i64 S, .int .i64 V] 30)
  have B0 := ((Below.refl w.heap.size w).alloc (Nat.le_refl _) (.cells #[.int .i64 k, .int .i64 q, .int .i64 t, .int .i64 m, .int .i64 r, .int .i64 s, .int .i64 v, .slice A n c] 32)).alloc (by simp) (.cells #[.int .i64 T, .int .i64 M, .int .i64 R, .int .i64 S, .int .i64 V] 30)
  obtain ⟨R0, R1⟩ := alloc2 w (.cells #[.int .i64 k, .int .i64 q, .int .i64 t, .int .i64 m, .int .i64 r, .int .i64 s, .int .i64 v, .slice A n c] 32) (.cells #[.int .i64 T, .int .i64 M, .int .i64 R, .int .i64 S, .int .i64 V] 30)
  have z0 : w.heap.size + 2 = ((w.alloc (.cells #[.int .i64 k, .int .i64 q, .int .i64 t, .int .i64 m, .int .i64 r, .int .i64 s, .int .i64 v, .slice A n c] 32)).alloc (.cells #[.int .i64 T, .int .i64 M, .int .i64 R, .int .i64 S, .int .i64 V] 30)).heap.size := by simp
  obtain ⟨c0, c1, c2, c3, c4, c5, c6, c7⟩ := fr_cells R0
  obtain ⟨d0, d1, d2, d3, d4⟩ := cells5 R1
  generalize hW : World.alloc _ _ = W at *
  have HC := Lib.hid (s_sealCode k q t m r s v A n c xs id T M R S V B W hI (by omega))
  by_cases h0 : slC (frOk k q t m r s v xs) (stOk T M R S V) id = 0
  · obtain ⟨hf, hs, hi⟩ := slC_zero h0
    rw [h0] at HC
    rw [h0, if_pos rfl]
    have HS := Lib.hid (fun W' hI' hB' => s_seal k q t m r s v A n c xs id T M R S V B W' hI' hB' hf hi hs)
    clear h0 hf hs hi h
    go_enter Try.func30, Try.ntmps30
    go_upto_region 1 with fail
    try rw [hW]
    clear hW
    go_wp2_with (first
      | (go_at_call 60; refine HC.out.mono ?_; rintro e w1 ⟨rfl, b1⟩; have z1 := b1.size; have B1 := B0.trans (b1.mono (by omega)); have I1 := hI.below' (by omega) b1; obtain ⟨c0, c1, c2, c3, c4, c5, c6, c7⟩ := fr_cells ((b1.block w.heap.size (by omega)).trans R0); obtain ⟨d0, d1, d2, d3, d4⟩ := cells5 ((b1.block (w.heap.size + 1) (by omega)).trans R1))
      | (go_at_call 64; refine (HS.out _ I1 (by omega)).mono ?_; rintro e w2 ⟨u, rfl, o2, b2⟩))
    go_ret2
    exact ⟨_, rfl, o2.less (by omega), B1.trans (b2.mono (by omega))⟩
  · rw [if_neg h0]
    generalize slC (frOk k q t m r s v xs) (stOk T M R S V) id = C at *
    have h1 : (C != 0) = true := by simpa using h0
    clear h0 h
    go_enter Try.func30, Try.ntmps30
    go_upto_region 1 with fail
    try rw [hW]
    clear hW
    go_wp2_with (first
      | (go_at_call 60; refine HC.out.mono ?_; rintro e w1 ⟨rfl, b1⟩))
    go_ret2
    exact ⟨_, rfl, IOwn.nil _ _, B0.trans (b1.mono (by omega))⟩
set_option maxHeartbeats 2000000 in
theorem s_SealNumber (k q t m r s v : Int) (A : Option Addr) (n c : Nat) (xs : List Int) (id : Int) (T M R S V : Int) (B : Nat) (w : World) (h : IntsAt w B A n c xs) (hB : B ≤ w.heap.size) :
    Calls Try.prog 27 #[.agg #[.int .i64 k, .int .i64 q, .int .i64 t, .int .i64 m, .int .i64 r, .int .i64 s, .int .i64 v, .slice A n c], .int .i64 id, .agg #[.int .i64 T, .int .i64 M, .int .i64 R, .int .i64 S, .int .i64 V]] w fun e w' => e = .returned (.tuple #[.int .i64 (if slC (frOk k q t m r s v xs) (stOk T M R S V) id = 0 then ((chkN k (bodyL k q t m r s v xs) id.toNat T M R S V : Nat) : Int) else 0), .int .i64 (slC (frOk k q t m r s v xs) (stOk T M R S V) id)]) ∧ Below w.heap.size w w' := by
  have hI := (h.alloc hB (.cells #[.int .i64 k, .int .i64 q, .int .i64 t, .int .i64 m, .int .i64 r, .int .i64 s, .int .i64 v, .slice A n c] 32)).alloc (by simp; omega) (.cells #[.int .i64 T, .int .i64 M, .int .i64 R, .int .i64 S, .int .i64 V] 30)
  have B0 := ((Below.refl w.heap.size w).alloc (Nat.le_refl _) (.cells #[.int .i64 k, .int .i64 q, .int .i64 t, .int .i64 m, .int .i64 r, .int .i64 s, .int .i64 v, .slice A n c] 32)).alloc (by simp) (.cells #[.int .i64 T, .int .i64 M, .int .i64 R, .int .i64 S, .int .i64 V] 30)
  obtain ⟨R0, R1⟩ := alloc2 w (.cells #[.int .i64 k, .int .i64 q, .int .i64 t, .int .i64 m, .int .i64 r, .int .i64 s, .int .i64 v, .slice A n c] 32) (.cells #[.int .i64 T, .int .i64 M, .int .i64 R, .int .i64 S, .int .i64 V] 30)
  have z0 : w.heap.size + 2 = ((w.alloc (.cells #[.int .i64 k, .int .i64 q, .int .i64 t, .int .i64 m, .int .i64 r, .int .i64 s, .int .i64 v, .slice A n c] 32)).alloc (.cells #[.int .i64 T, .int .i64 M, .int .i64 R, .int .i64 S, .int .i64 V] 30)).heap.size := by simp
  obtain ⟨c0, c1, c2, c3, c4, c5, c6, c7⟩ := fr_cells R0
  obtain ⟨d0, d1, d2, d3, d4⟩ := cells5 R1
  generalize hW : World.alloc _ _ = W at *
  have HC := Lib.hid (s_sealCode k q t m r s v A n c xs id T M R S V B W hI (by omega))
  by_cases h0 : slC (frOk k q t m r s v xs) (stOk T M R S V) id = 0
  · obtain ⟨hf, hs, hi⟩ := slC_zero h0
    rw [h0] at HC
    rw [h0, if_pos rfl]
    have hbl := body_small hf
    have hbm := bodyL_mem k q t m r s v xs hf
    have HS := Lib.hid (fun W' hI' hB' => s_body k q t m r s v A n c xs B W' hI' hB' hf)
    have HK := Lib.hid (fun A' n' c' B' W' hI' hB' hn' => s_check k A' n' c' (bodyL k q t m r s v xs) id T M R S V B' W' hI' hB' hbm hn' hi hs)
    clear h0 hf hs hi h hbm
    generalize bodyL k q t m r s v xs = L at *
    generalize chkN k L id.toNat T M R S V = C at *
    go_enter Try.func27, Try.ntmps27
    go_upto_region 1 with fail
    try rw [hW]
    clear hW
    go_wp2_with (first
      | (go_at_call 60; refine HC.out.mono ?_; rintro e w1 ⟨rfl, b1⟩; have z1 := b1.size; have B1 := B0.trans (b1.mono (by omega)); have I1 := hI.below' (by omega) b1; have R01 := (b1.block w.heap.size (by omega)).trans R0; have R11 := (b1.block (w.heap.size + 1) (by omega)).trans R1; obtain ⟨c0, c1, c2, c3, c4, c5, c6, c7⟩ := fr_cells R01; obtain ⟨d0, d1, d2, d3, d4⟩ := cells5 R11))
    have zz : w1.drew.heap.size = w1.heap.size := rfl
    go_region_held3 (fun w' => w'.cell? ⟨w.heap.size, 0, none⟩ = some (.int .i64 k) ∧ w'.cell? ⟨w.heap.size, 1, none⟩ = some (.int .i64 q) ∧ w'.cell? ⟨w.heap.size, 2, none⟩ = some (.int .i64 t) ∧ w'.cell? ⟨w.heap.size, 3, none⟩ = some (.int .i64 m) ∧ w'.cell? ⟨w.heap.size, 4, none⟩ = some (.int .i64 r) ∧ w'.cell? ⟨w.heap.size, 5, none⟩ = some (.int .i64 s) ∧ w'.cell? ⟨w.heap.size, 6, none⟩ = some (.int .i64 v) ∧ w'.cell? ⟨w.heap.size, 7, none⟩ = some (.slice A n c) ∧ w'.cell? ⟨w.heap.size + 1, 0, none⟩ = some (.int .i64 T) ∧ w'.cell? ⟨w.heap.size + 1, 1, none⟩ = some (.int .i64 M) ∧ w'.cell? ⟨w.heap.size + 1, 2, none⟩ = some (.int .i64 R) ∧ w'.cell? ⟨w.heap.size + 1, 3, none⟩ = some (.int .i64 S) ∧ w'.cell? ⟨w.heap.size + 1, 4, none⟩ = some (.int .i64 V)) (go_keep) (first
      | (go_at_call 61; refine (HK.out _ _ _ _ _ i2 (Nat.le_refl _) (by omega)).mono ?_; rintro e w3 ⟨rfl, b3⟩; have z3 := b3.size; have B3 := B2.trans (b3.mono (by omega)); obtain ⟨c0, c1, c2, c3, c4, c5, c6, c7⟩ := fr_cells ((b3.block w.heap.size (by omega)).trans R02); obtain ⟨d0, d1, d2, d3, d4⟩ := cells5 ((b3.block (w.heap.size + 1) (by omega)).trans R12))
      | (go_at_call 53; refine (HS.out _ I1.drew (show B ≤ w1.heap.size by omega)).mono ?_; rintro e w2 ⟨u, rfl, o2, b2⟩; obtain ⟨A2, cc2, rfl, i2⟩ := o2.ints (by omega); have z2 : w1.heap.size ≤ w2.heap.size := b2.size; have B2 := B1.drew.trans (b2.mono (show w.heap.size ≤ w1.heap.size by omega)); have R02 := (b2.block w.heap.size (show w.heap.size < w1.heap.size by omega)).trans R01; have R12 := (b2.block (w.heap.size + 1) (show w.heap.size + 1 < w1.heap.size by omega)).trans R11; obtain ⟨c0, c1, c2, c3, c4, c5, c6, c7⟩ := fr_cells R02; obtain ⟨d0, d1, d2, d3, d4⟩ := cells5 R12))
    go_wp2
    go_ret2
    exact ⟨rfl, B3⟩
  · rw [if_neg h0]
    generalize slC (frOk k q t m r s v xs) (stOk T M R S V) id = C at *
    have h1 : (C != 0) = true := by simpa using h0
    clear h0 h
    go_enter Try.func27, Try.ntmps27
    go_upto_region 1 with fail
    try rw [hW]
    clear hW
    go_wp2_with (first
      | (go_at_call 60; refine HC.out.mono ?_; rintro e w1 ⟨rfl, b1⟩))
    go_ret2
    exact ⟨rfl, B0.trans (b1.mono (by omega))⟩
end Go.Proofs.Ytpcdachkmekjgaa

/- Contracts: the codes of sealing, the check number. -/
import Derived.Test.YtpcdachkmekjgaaBodyI
import Derived.Test.YtpcdachkmekjgaaBodyS
import Derived.Test.YtpcdachkmekjgaaByts2
import Derived.Test.YtpcdachkmekjgaaFrmI
import Derived.Test.YtpcdachkmekjgaaFrmS
import Derived.Test.YtpcdachkmekjgaaFrmH
import Derived.Test.YtpcdachkmekjgaaCrc
import Derived.Deep.RegionHeld3
import Derived.BigRegion
namespace Go.Proofs.Ytpcdachkmekjgaa
open Go.RowKit
set_option linter.unusedSimpArgs false
set_option linter.unusedVariables false
def idOk (id : Int) : Bool := decide (0 ≤ id ∧ id ≤ 16777215)
/-- The code of sealing. -/
def slC (f st : Bool) (id : Int) : Int := if f && st then (if idOk id then 0 else 2) else 1
theorem i_isId (id : Int) (w : World) : Calls Try.prog 70 #[.int .i64 id] w fun e w' => e = .returned (.bool (idOk id)) ∧ w = w' := by
  by_cases h : 0 ≤ id ∧ id ≤ 16777215
  · have h1 := h.1
    have h2 := h.2
    rw [show idOk id = true from decide_eq_true h]
    clear h
    go_enter Try.func70, Try.ntmps70
    go_wp2_with (first | (go_at_call 77; first | (refine (i_within_yes _ _ _ _ ?_ ?_).mono ?_; omega; omega; rintro e w' ⟨rfl, rfl⟩) | (refine (i_within_no _ _ _ _ ?_).mono ?_; omega; rintro e w' ⟨rfl, rfl⟩)) | go_in)
    go_ret
    exact ⟨rfl, rfl⟩
  · rw [show idOk id = false from decide_eq_false h]
    have h' : id < 0 ∨ 16777215 < id := by omega
    clear h
    go_enter Try.func70, Try.ntmps70
    go_wp2_with (first | (go_at_call 77; first | (refine (i_within_yes _ _ _ _ ?_ ?_).mono ?_; omega; omega; rintro e w' ⟨rfl, rfl⟩) | (refine (i_within_no _ _ _ _ ?_).mono ?_; omega; rintro e w' ⟨rfl, rfl⟩)) | go_in)
    go_ret
    exact ⟨rfl, rfl⟩
theorem s_isId (id : Int) (w : World) : Calls Try.prog 67 #[.int .i64 id] w fun e w' => e = .returned (.bool (idOk id)) ∧ w = w' := by
  by_cases h : 0 ≤ id ∧ id ≤ 16777215
  · have h1 := h.1
    have h2 := h.2
    rw [show idOk id = true from decide_eq_true h]
    clear h
    go_enter Try.func67, Try.ntmps67
    go_wp2_with (first | (go_at_call 80; first | (refine (s_l01In_yes _ _ _ _ ?_ ?_).mono ?_; omega; omega; rintro e w' ⟨rfl, rfl⟩) | (refine (s_l01In_no _ _ _ _ ?_).mono ?_; omega; rintro e w' ⟨rfl, rfl⟩)) | go_in)
    go_ret
    exact ⟨rfl, rfl⟩
  · rw [show idOk id = false from decide_eq_false h]
    have h' : id < 0 ∨ 16777215 < id := by omega
    clear h
    go_enter Try.func67, Try.ntmps67
    go_wp2_with (first | (go_at_call 80; first | (refine (s_l01In_yes _ _ _ _ ?_ ?_).mono ?_; omega; omega; rintro e w' ⟨rfl, rfl⟩) | (refine (s_l01In_no _ _ _ _ ?_).mono ?_; omega; rintro e w' ⟨rfl, rfl⟩)) | go_in)
    go_ret
    exact ⟨rfl, rfl⟩
set_option maxHeartbeats 1000000 in
theorem i_sealCode (k q t m r s v : Int) (A : Option Addr) (n c : Nat) (xs : List Int) (id : Int) (T M R S V : Int) (B : Nat) (w : World) (h : IntsAt w B A n c xs) (hB : B ≤ w.heap.size) :
    Calls Try.prog 62 #[.agg #[.int .i64 k, .int .i64 q, .int .i64 t, .int .i64 m, .int .i64 r, .int .i64 s, .int .i64 v, .slice A n c], .int .i64 id, .agg #[.int .i64 T, .int .i64 M, .int .i64 R, .int .i64 S, .int .i64 V]] w fun e w' => e = .returned (.int .i64 (slC (frOk k q t m r s v xs) (stOk T M R S V) id)) ∧ Below w.heap.size w w' := by
  have hI := (h.alloc hB (.cells #[.int .i64 k, .int .i64 q, .int .i64 t, .int .i64 m, .int .i64 r, .int .i64 s, .int .i64 v, .slice A n c] 32)).alloc (by simp; omega) (.cells #[.int .i64 T, .int .i64 M, .int .i64 R, .int .i64 S, .int .i64 V] 30)
  have B0 := ((Below.refl w.heap.size w).alloc (Nat.le_refl _) (.cells #[.int .i64 k, .int .i64 q, .int .i64 t, .int .i64 m, .int .i64 r, .int .i64 s, .int .i64 v, .slice A n c] 32)).alloc (by simp) (.cells #[.int .i64 T, .int .i64 M, .int .i64 R, .int .i64 S, .int .i64 V] 30)
  obtain ⟨R0, R1⟩ := alloc2 w (.cells #[.int .i64 k, .int .i64 q, .int .i64 t, .int .i64 m, .int .i64 r, .int .i64 s, .int .i64 v, .slice A n c] 32) (.cells #[.int .i64 T, .int .i64 M, .int .i64 R, .int .i64 S, .int .i64 V] 30)
  have z0 : w.heap.size + 2 = ((w.alloc (.cells #[.int .i64 k, .int .i64 q, .int .i64 t, .int .i64 m, .int .i64 r, .int .i64 s, .int .i64 v, .slice A n c] 32)).alloc (.cells #[.int .i64 T, .int .i64 M, .int .i64 R, .int .i64 S, .int .i64 V] 30)).heap.size := by simp
  clear h
  obtain ⟨c0, c1, c2, c3, c4, c5, c6, c7⟩ := fr_cells R0
  obtain ⟨d0, d1, d2, d3, d4⟩ := cells5 R1
  generalize hW : World.alloc _ _ = W at *
  have C1 := i_IsFrame k q t m r s v A n c xs B W hI (by omega)
  have C2 := i_IsState T M R S V
  have C3 := i_isId id
  cases hf : frOk k q t m r s v xs
  · rw [hf] at C1
    rw [show slC false (stOk T M R S V) id = 1 from rfl]
    clear C2 C3
    go_enter Try.func62, Try.ntmps62
    go_upto_region 1 with fail
    try rw [hW]
    go_wp2_with (first | (go_at_call 39; refine C1.mono ?_; rintro e w1 ⟨rfl, b1⟩))
    go_ret
    exact ⟨rfl, B0.trans (b1.mono (by omega))⟩
  · rw [hf] at C1
    cases hs : stOk T M R S V
    · rw [hs] at C2
      rw [show slC true false id = 1 from rfl]
      clear C3
      go_enter Try.func62, Try.ntmps62
      go_upto_region 1 with fail
      try rw [hW]
      go_wp2_with (first
        | (go_at_call 39; refine C1.mono ?_; rintro e w1 ⟨rfl, b1⟩; have z1 := b1.size; obtain ⟨d0, d1, d2, d3, d4⟩ := cells5 ((b1.block (w.heap.size + 1) (by omega)).trans R1))
        | (go_at_call 69; refine (C2 _).mono ?_; rintro e w2 ⟨rfl, b2⟩))
      go_ret
      exact ⟨rfl, (B0.trans (b1.mono (by omega))).trans (b2.mono (by omega))⟩
    · rw [hs] at C2
      cases hi : idOk id
      · rw [hi] at C3
        rw [show slC true true id = 2 by simp [slC, hi]]
        go_enter Try.func62, Try.ntmps62
        go_upto_region 1 with fail
        try rw [hW]
        go_wp2_with (first
          | (go_at_call 39; refine C1.mono ?_; rintro e w1 ⟨rfl, b1⟩; have z1 := b1.size; obtain ⟨d0, d1, d2, d3, d4⟩ := cells5 ((b1.block (w.heap.size + 1) (by omega)).trans R1))
          | (go_at_call 69; refine (C2 _).mono ?_; rintro e w2 ⟨rfl, b2⟩)
          | (go_at_call 70; refine (C3 _).mono ?_; rintro e w3 ⟨rfl, rfl⟩))
        go_ret
        exact ⟨rfl, (B0.trans (b1.mono (by omega))).trans (b2.mono (by omega))⟩
      · rw [hi] at C3
        rw [show slC true true id = 0 by simp [slC, hi]]
        go_enter Try.func62, Try.ntmps62
        go_upto_region 1 with fail
        try rw [hW]
        go_wp2_with (first
          | (go_at_call 39; refine C1.mono ?_; rintro e w1 ⟨rfl, b1⟩; have z1 := b1.size; obtain ⟨d0, d1, d2, d3, d4⟩ := cells5 ((b1.block (w.heap.size + 1) (by omega)).trans R1))
          | (go_at_call 69; refine (C2 _).mono ?_; rintro e w2 ⟨rfl, b2⟩)
          | (go_at_call 70; refine (C3 _).mono ?_; rintro e w3 ⟨rfl, rfl⟩))
        go_ret
        exact ⟨rfl, (B0.trans (b1.mono (by omega))).trans (b2.mono (by omega))⟩
set_option maxHeartbeats 1000000 in
theorem s_sealCode (k q t m r s v : Int) (A : Option Addr) (n c : Nat) (xs : List Int) (id : Int) (T M R S V : Int) (B : Nat) (w : World) (h : IntsAt w B A n c xs) (hB : B ≤ w.heap.size) :
    Calls Try.prog 60 #[.agg #[.int .i64 k, .int .i64 q, .int .i64 t, .int .i64 m, .int .i64 r, .int .i64 s, .int .i64 v, .slice A n c], .int .i64 id, .agg #[.int .i64 T, .int .i64 M, .int .i64 R, .int .i64 S, .int .i64 V]] w fun e w' => e = .returned (.int .i64 (slC (frOk k q t m r s v xs) (stOk T M R S V) id)) ∧ Below w.heap.size w w' := by
  have hI := (h.alloc hB (.cells #[.int .i64 k, .int .i64 q, .int .i64 t, .int .i64 m, .int .i64 r, .int .i64 s, .int .i64 v, .slice A n c] 32)).alloc (by simp; omega) (.cells #[.int .i64 T, .int .i64 M, .int .i64 R, .int .i64 S, .int .i64 V] 30)
  have B0 := ((Below.refl w.heap.size w).alloc (Nat.le_refl _) (.cells #[.int .i64 k, .int .i64 q, .int .i64 t, .int .i64 m, .int .i64 r, .int .i64 s, .int .i64 v, .slice A n c] 32)).alloc (by simp) (.cells #[.int .i64 T, .int .i64 M, .int .i64 R, .int .i64 S, .int .i64 V] 30)
  obtain ⟨R0, R1⟩ := alloc2 w (.cells #[.int .i64 k, .int .i64 q, .int .i64 t, .int .i64 m, .int .i64 r, .int .i64 s, .int .i64 v, .slice A n c] 32) (.cells #[.int .i64 T, .int .i64 M, .int .i64 R, .int .i64 S, .int .i64 V] 30)
  have z0 : w.heap.size + 2 = ((w.alloc (.cells #[.int .i64 k, .int .i64 q, .int .i64 t, .int .i64 m, .int .i64 r, .int .i64 s, .int .i64 v, .slice A n c] 32)).alloc (.cells #[.int .i64 T, .int .i64 M, .int .i64 R, .int .i64 S, .int .i64 V] 30)).heap.size := by simp
  clear h
  obtain ⟨c0, c1, c2, c3, c4, c5, c6, c7⟩ := fr_cells R0
  obtain ⟨d0, d1, d2, d3, d4⟩ := cells5 R1
  generalize hW : World.alloc _ _ = W at *
  have C1 := s_IsFrame k q t m r s v A n c xs B W hI (by omega)
  have C2 := s_IsState T M R S V
  have C3 := s_isId id
  cases hf : frOk k q t m r s v xs
  · rw [hf] at C1
    rw [show slC false (stOk T M R S V) id = 1 from rfl]
    clear C2 C3
    go_enter Try.func60, Try.ntmps60
    go_upto_region 1 with fail
    try rw [hW]
    go_wp2_with (first | (go_at_call 40; refine C1.mono ?_; rintro e w1 ⟨rfl, b1⟩))
    go_ret
    exact ⟨rfl, B0.trans (b1.mono (by omega))⟩
  · rw [hf] at C1
    cases hs : stOk T M R S V
    · rw [hs] at C2
      rw [show slC true false id = 1 from rfl]
      clear C3
      go_enter Try.func60, Try.ntmps60
      go_upto_region 1 with fail
      try rw [hW]
      go_wp2_with (first
        | (go_at_call 40; refine C1.mono ?_; rintro e w1 ⟨rfl, b1⟩; have z1 := b1.size; obtain ⟨d0, d1, d2, d3, d4⟩ := cells5 ((b1.block (w.heap.size + 1) (by omega)).trans R1))
        | (go_at_call 66; refine (C2 _).mono ?_; rintro e w2 ⟨rfl, b2⟩))
      go_ret
      exact ⟨rfl, (B0.trans (b1.mono (by omega))).trans (b2.mono (by omega))⟩
    · rw [hs] at C2
      cases hi : idOk id
      · rw [hi] at C3
        rw [show slC true true id = 2 by simp [slC, hi]]
        go_enter Try.func60, Try.ntmps60
        go_upto_region 1 with fail
        try rw [hW]
        go_wp2_with (first
          | (go_at_call 40; refine C1.mono ?_; rintro e w1 ⟨rfl, b1⟩; have z1 := b1.size; obtain ⟨d0, d1, d2, d3, d4⟩ := cells5 ((b1.block (w.heap.size + 1) (by omega)).trans R1))
          | (go_at_call 66; refine (C2 _).mono ?_; rintro e w2 ⟨rfl, b2⟩)
          | (go_at_call 67; refine (C3 _).mono ?_; rintro e w3 ⟨rfl, rfl⟩))
        go_ret
        exact ⟨rfl, (B0.trans (b1.mono (by omega))).trans (b2.mono (by omega))⟩
      · rw [hi] at C3
        rw [show slC true true id = 0 by simp [slC, hi]]
        go_enter Try.func60, Try.ntmps60
        go_upto_region 1 with fail
        try rw [hW]
        go_wp2_with (first
          | (go_at_call 40; refine C1.mono ?_; rintro e w1 ⟨rfl, b1⟩; have z1 := b1.size; obtain ⟨d0, d1, d2, d3, d4⟩ := cells5 ((b1.block (w.heap.size + 1) (by omega)).trans R1))
          | (go_at_call 66; refine (C2 _).mono ?_; rintro e w2 ⟨rfl, b2⟩)
          | (go_at_call 67; refine (C3 _).mono ?_; rintro e w3 ⟨rfl, rfl⟩))
        go_ret
        exact ⟨rfl, (B0.trans (b1.mono (by omega))).trans (b2.mono (by omega))⟩
theorem i_StdCrc (w : World) : Calls Try.prog 108 #[] w fun e w' => e = .returned (.agg #[.int .i64 24, .int .i64 6122955]) ∧ Below w.heap.size w w' := by
  go_enter Try.func108, Try.ntmps108
  go_wp2
  exact bodyPost_ret (v := .agg #[.int .i64 24, .int .i64 6122955]) (by simp [results, Try.results108, go_sem]) rfl ⟨rfl, (Below.refl _ _).alloc (Nat.le_refl _) _⟩
theorem s_StdCrc (w : World) : Calls Try.prog 107 #[] w fun e w' => e = .returned (.agg #[.int .i64 24, .int .i64 6122955]) ∧ Below w.heap.size w w' := by
  go_enter Try.func107, Try.ntmps107
  go_wp2
  exact bodyPost_ret (v := .agg #[.int .i64 24, .int .i64 6122955]) (by simp [results, Try.results107, go_sem]) rfl ⟨rfl, (Below.refl _ _).alloc (Nat.le_refl _) _⟩
set_option maxHeartbeats 2000000 in
theorem i_check_ne (k : Int) (A : Option Addr) (n c : Nat) (xs : List Int) (id T M R S V : Nat) (B : Nat) (w : World) (h : IntsAt w B A n c xs) (hB : B ≤ w.heap.size) (hb : ∀ k, k < n → 0 ≤ xs.getD k 0 ∧ xs.getD k 0 ≤ 255) (hn : n ≤ 1000) (hid : id < 16777216) (hk : k ≠ 0) :
    Calls Try.prog 63 #[.int .i64 k, .slice A n c, .int .i64 id, .agg #[.int .i64 T, .int .i64 M, .int .i64 R, .int .i64 S, .int .i64 V]] w fun e w' => e = .returned (.int .i64 ((crcL id (bitsL xs) : Nat) : Int)) ∧ Below w.heap.size w w' := by
  have hI := h.alloc hB (.cells #[.int .i64 T, .int .i64 M, .int .i64 R, .int .i64 S, .int .i64 V] 30)
  have B0 := (Below.refl w.heap.size w).alloc (Nat.le_refl _) (.cells #[.int .i64 T, .int .i64 M, .int .i64 R, .int .i64 S, .int .i64 V] 30)
  have R0 := heap_alloc_new w (.cells #[.int .i64 T, .int .i64 M, .int .i64 R, .int .i64 S, .int .i64 V] 30)
  have z0 : w.heap.size + 1 = (w.alloc (.cells #[.int .i64 T, .int .i64 M, .int .i64 R, .int .i64 S, .int .i64 V] 30)).heap.size := by simp
  have hl := h.len
  have hbl : (bitsL xs).length ≤ 16777216 := by rw [bitsL_len]; omega
  have hbm : ∀ k, k < (bitsL xs).length → 0 ≤ (bitsL xs).getD k 0 ∧ (bitsL xs).getD k 0 ≤ 1 := fun k _ => (bitsL_mem xs).getD k
  have HB := Lib.hid hbm; have HX := Lib.hid hb; clear hbm hb
  have HL := Lib.hid hl; have HH := Lib.hid h; clear hl h
  have hk' : (k == 0) = false := by simpa using hk
  have HR := hid
  have B3 := B0; have I3 := hI
  clear hk
  go_enter Try.func63, Try.ntmps63
  go_upto_region 1 with fail
  generalize World.alloc _ _ = W at *
  go_wp2_with (first
    | (go_at_call 108; refine (i_StdCrc _).mono ?_; rintro e w3 ⟨rfl, b3⟩; have z3 := b3.size; have I3 := I3.below' (by omega) b3; have B3 := B3.trans (b3.mono (by omega)))
    | (go_at_call 90; refine (i_toBits _ _ _ xs _ _ I3 (by omega) HX.out (by omega)).mono ?_; rintro e w4 ⟨u4, rfl, o4, b4⟩; obtain ⟨A4, d4', rfl, i4⟩ := o4.ints hbl; have z4 := b4.size; have B4 := B3.trans (b4.mono (by omega)))
    | (go_at_call 109; refine (i_feed _ _ _ _ _ _ _ i4 (Nat.le_refl _) HR HB.out).mono ?_; rintro e w5 ⟨rfl, b5⟩))
  go_ret
  exact ⟨rfl, B4.trans (b5.mono (by omega))⟩
set_option maxHeartbeats 2000000 in
theorem i_check_eq (A : Option Addr) (n c : Nat) (xs : List Int) (id T M R S V : Nat) (B : Nat) (w : World) (h : IntsAt w B A n c xs) (hB : B ≤ w.heap.size) (hb : ∀ k, k < n → 0 ≤ xs.getD k 0 ∧ xs.getD k 0 ≤ 255) (hn : n ≤ 1000) (hid : id < 16777216) (hT : T < 65536) (hM : M < 16) (hR : R < 16) (hS : S < 256) (hV : V < 4294967296) :
    Calls Try.prog 63 #[.int .i64 0, .slice A n c, .int .i64 id, .agg #[.int .i64 T, .int .i64 M, .int .i64 R, .int .i64 S, .int .i64 V]] w fun e w' => e = .returned (.int .i64 ((crcL (crcL id (stBits T M R S V)) (bitsL xs) : Nat) : Int)) ∧ Below w.heap.size w w' := by
  have hI := h.alloc hB (.cells #[.int .i64 T, .int .i64 M, .int .i64 R, .int .i64 S, .int .i64 V] 30)
  have B0 := (Below.refl w.heap.size w).alloc (Nat.le_refl _) (.cells #[.int .i64 T, .int .i64 M, .int .i64 R, .int .i64 S, .int .i64 V] 30)
  have R0 := heap_alloc_new w (.cells #[.int .i64 T, .int .i64 M, .int .i64 R, .int .i64 S, .int .i64 V] 30)
  have z0 : w.heap.size + 1 = (w.alloc (.cells #[.int .i64 T, .int .i64 M, .int .i64 R, .int .i64 S, .int .i64 V] 30)).heap.size := by simp
  have hl := h.len
  have hbl : (bitsL xs).length ≤ 16777216 := by rw [bitsL_len]; omega
  have hbm : ∀ k, k < (bitsL xs).length → 0 ≤ (bitsL xs).getD k 0 ∧ (bitsL xs).getD k 0 ≤ 1 := fun k _ => (bitsL_mem xs).getD k
  have HB := Lib.hid hbm; have HX := Lib.hid hb; clear hbm hb
  have HL := Lib.hid hl; have HH := Lib.hid h; clear hl h
  have hsm : ∀ k, k < (stBits T M R S V).length → 0 ≤ (stBits T M R S V).getD k 0 ∧ (stBits T M R S V).getD k 0 ≤ 1 := fun k _ => bit01.getD (stBits_mem T M R S V) k
  have HS := Lib.hid hsm; clear hsm
  have HR := crcL_lt (stBits T M R S V) id hid
  go_enter Try.func63, Try.ntmps63
  go_upto_region 1 with fail
  generalize hg : w.heap.size = g at *
  generalize World.alloc _ _ = W at *
  obtain ⟨c0, c1, c2, c3, c4⟩ := cells5 R0
  have rr : W.drew.heap[g]? = some (.cells #[.int .i64 T, .int .i64 M, .int .i64 R, .int .i64 S, .int .i64 V] 30 (0, 0)) := R0
  have zz : g < W.drew.heap.size := (show g < W.heap.size by omega)
  have kb : Below g w W.drew := B0.drew
  have hslen : (stBits T M R S V).length ≤ 16777216 := by rw [stBits_len]; omega
  have zW : W.drew.heap.size = W.heap.size := rfl
  go_upto_region 3 with fail
  go_region_held3 (fun w' => w'.cell? ⟨g, 0, none⟩ = some (.int .i64 T) ∧ w'.cell? ⟨g, 1, none⟩ = some (.int .i64 M) ∧ w'.cell? ⟨g, 2, none⟩ = some (.int .i64 R) ∧ w'.cell? ⟨g, 3, none⟩ = some (.int .i64 S) ∧ w'.cell? ⟨g, 4, none⟩ = some (.int .i64 V)) (go_keep) (first
    | (go_at_call 109; refine (i_feed id _ _ _ (stBits T M R S V) _ _ i9 (by omega) hid HS.out).mono ?_; rintro e w5 ⟨rfl, b5⟩; have z5 := b5.size; have zz5 : g < w5.heap.size := (by omega); have kb5 := kb9.trans (b5.mono (by omega)); have rr5 := (b5.block g zz9).trans rr9; obtain ⟨c0, c1, c2, c3, c4⟩ := cells5 rr5)
    | (go_at_call 96; refine (i_stateBits T M R S V _ hT hM hR hS hV).mono ?_; rintro e w2 ⟨u2, rfl, o2, b2⟩; obtain ⟨A2, cc2, rfl, i9'⟩ := o2.ints hslen; have z2 := b2.size; have rr9 := (b2.block g zz3).trans rr3; have zz9 : g < w2.heap.size := (by omega); have kb9 := kb3.trans (b2.mono (by omega)); have i9 := i9'.more (Nat.le_refl _); have zl9 : w2.heap.size < w2.heap.size + 1 := Nat.lt_succ_self _; obtain ⟨c0, c1, c2, c3, c4⟩ := cells5 rr9)
    | (go_at_call 96; refine (i_stateBits T M R S V _ hT hM hR hS hV).mono ?_; rintro e w2 ⟨u2, rfl, o2, b2⟩; obtain ⟨A2, cc2, rfl, i2⟩ := o2.ints hslen; have z2 := b2.size; have rr2 := (b2.block g zz).trans rr; have zz2 : g < w2.heap.size := (by omega); have kb2 := kb.trans (b2.mono (by omega)); obtain ⟨c0, c1, c2, c3, c4⟩ := cells5 rr2)
    | (go_at_call 108; refine (i_StdCrc _).mono ?_; rintro e w3 ⟨rfl, b3⟩; have z3 := b3.size; have rr9 := (b3.block g zz2).trans rr2; have zz9 : g < w3.heap.size := (by omega); have kb9 := kb2.trans (b3.mono (by omega)); have i9 := i2.below b3; have zl9 : w2.heap.size < w3.heap.size + 1 := (by omega); obtain ⟨c0, c1, c2, c3, c4⟩ := cells5 rr9)
    | (go_at_call 108; refine (i_StdCrc _).mono ?_; rintro e w3 ⟨rfl, b3⟩; have z3 := b3.size; have rr3 := (b3.block g zz).trans rr; have zz3 : g < w3.heap.size := (by omega); have kb3 := kb.trans (b3.mono (by omega)); obtain ⟨c0, c1, c2, c3, c4⟩ := cells5 rr3))
  have I5 := HH.out.below' hB kb5
  go_wp2_with (first
    | (go_at_call 108; refine (i_StdCrc _).mono ?_; rintro e w6 ⟨rfl, b6⟩; have z6 := b6.size; have I6 := I5.below' (by omega) b6; have B6 := kb5.trans (b6.mono (by omega)))
    | (go_at_call 90; refine (i_toBits _ _ _ xs _ _ I6 (by omega) HX.out (by omega)).mono ?_; rintro e w7 ⟨u7, rfl, o7, b7⟩; obtain ⟨A7, d7', rfl, i7⟩ := o7.ints hbl; have z7 := b7.size; have B7 := B6.trans (b7.mono (by omega)))
    | (go_at_call 109; refine (i_feed _ _ _ _ _ _ _ i7 (Nat.le_refl _) HR HB.out).mono ?_; rintro e w8 ⟨rfl, b8⟩))
  go_ret
  exact ⟨rfl, by rw [hg]; exact B7.trans (b8.mono (by omega))⟩
set_option maxHeartbeats 2000000 in
theorem s_check_ne (k : Int) (A : Option Addr) (n c : Nat) (xs : List Int) (id T M R S V : Nat) (B : Nat) (w : World) (h : IntsAt w B A n c xs) (hB : B ≤ w.heap.size) (hb : ∀ k, k < n → 0 ≤ xs.getD k 0 ∧ xs.getD k 0 ≤ 255) (hn : n ≤ 1000) (hid : id < 16777216) (hk : k ≠ 0) :
    Calls Try.prog 61 #[.int .i64 k, .slice A n c, .int .i64 id, .agg #[.int .i64 T, .int .i64 M, .int .i64 R, .int .i64 S, .int .i64 V]] w fun e w' => e = .returned (.int .i64 ((crcL id (bitsL xs) : Nat) : Int)) ∧ Below w.heap.size w w' := by
  have hI := h.alloc hB (.cells #[.int .i64 T, .int .i64 M, .int .i64 R, .int .i64 S, .int .i64 V] 30)
  have B0 := (Below.refl w.heap.size w).alloc (Nat.le_refl _) (.cells #[.int .i64 T, .int .i64 M, .int .i64 R, .int .i64 S, .int .i64 V] 30)
  have R0 := heap_alloc_new w (.cells #[.int .i64 T, .int .i64 M, .int .i64 R, .int .i64 S, .int .i64 V] 30)
  have z0 : w.heap.size + 1 = (w.alloc (.cells #[.int .i64 T, .int .i64 M, .int .i64 R, .int .i64 S, .int .i64 V] 30)).heap.size := by simp
  have hl := h.len
  have hbl : (bitsL xs).length ≤ 16777216 := by rw [bitsL_len]; omega
  have hbm : ∀ k, k < (bitsL xs).length → 0 ≤ (bitsL xs).getD k 0 ∧ (bitsL xs).getD k 0 ≤ 1 := fun k _ => (bitsL_mem xs).getD k
  have HB := Lib.hid hbm; have HX := Lib.hid hb; clear hbm hb
  have HL := Lib.hid hl; have HH := Lib.hid h; clear hl h
  have hk' : (k == 0) = false := by simpa using hk
  have HR := hid
  have B3 := B0; have I3 := hI
  clear hk
  go_enter Try.func61, Try.ntmps61
  go_upto_region 1 with fail
  generalize World.alloc _ _ = W at *
  go_wp2_with (first
    | (go_at_call 107; refine (s_StdCrc _).mono ?_; rintro e w3 ⟨rfl, b3⟩; have z3 := b3.size; have I3 := I3.below' (by omega) b3; have B3 := B3.trans (b3.mono (by omega)))
    | (go_at_call 100; refine (s_l01Bits _ _ _ xs _ _ I3 (by omega) HX.out (by omega)).mono ?_; rintro e w4 ⟨u4, rfl, o4, b4⟩; obtain ⟨A4, d4', rfl, i4⟩ := o4.ints hbl; have z4 := b4.size; have B4 := B3.trans (b4.mono (by omega)))
    | (go_at_call 106; refine (s_l02Feed _ _ _ _ _ _ _ i4 (Nat.le_refl _) HR HB.out).mono ?_; rintro e w5 ⟨rfl, b5⟩))
  go_ret
  exact ⟨rfl, B4.trans (b5.mono (by omega))⟩
set_option maxHeartbeats 2000000 in
theorem s_check_eq (A : Option Addr) (n c : Nat) (xs : List Int) (id T M R S V : Nat) (B : Nat) (w : World) (h : IntsAt w B A n c xs) (hB : B ≤ w.heap.size) (hb : ∀ k, k < n → 0 ≤ xs.getD k 0 ∧ xs.getD k 0 ≤ 255) (hn : n ≤ 1000) (hid : id < 16777216) (hT : T < 65536) (hM : M < 16) (hR : R < 16) (hS : S < 256) (hV : V < 4294967296) :
    Calls Try.prog 61 #[.int .i64 0, .slice A n c, .int .i64 id, .agg #[.int .i64 T, .int .i64 M, .int .i64 R, .int .i64 S, .int .i64 V]] w fun e w' => e = .returned (.int .i64 ((crcL (crcL id (stBits T M R S V)) (bitsL xs) : Nat) : Int)) ∧ Below w.heap.size w w' := by
  have hI := h.alloc hB (.cells #[.int .i64 T, .int .i64 M, .int .i64 R, .int .i64 S, .int .i64 V] 30)
  have B0 := (Below.refl w.heap.size w).alloc (Nat.le_refl _) (.cells #[.int .i64 T, .int .i64 M, .int .i64 R, .int .i64 S, .int .i64 V] 30)
  have R0 := heap_alloc_new w (.cells #[.int .i64 T, .int .i64 M, .int .i64 R, .int .i64 S, .int .i64 V] 30)
  have z0 : w.heap.size + 1 = (w.alloc (.cells #[.int .i64 T, .int .i64 M, .int .i64 R, .int .i64 S, .int .i64 V] 30)).heap.size := by simp
  have hl := h.len
  have hbl : (bitsL xs).length ≤ 16777216 := by rw [bitsL_len]; omega
  have hbm : ∀ k, k < (bitsL xs).length → 0 ≤ (bitsL xs).getD k 0 ∧ (bitsL xs).getD k 0 ≤ 1 := fun k _ => (bitsL_mem xs).getD k
  have HB := Lib.hid hbm; have HX := Lib.hid hb; clear hbm hb
  have HL := Lib.hid hl; have HH := Lib.hid h; clear hl h
  have hsm : ∀ k, k < (stBits T M R S V).length → 0 ≤ (stBits T M R S V).getD k 0 ∧ (stBits T M R S V).getD k 0 ≤ 1 := fun k _ => bit01.getD (stBits_mem T M R S V) k
  have HS := Lib.hid hsm; clear hsm
  have HR := crcL_lt (stBits T M R S V) id hid
  go_enter Try.func61, Try.ntmps61
  go_upto_region 1 with fail
  generalize hg : w.heap.size = g at *
  generalize World.alloc _ _ = W at *
  obtain ⟨c0, c1, c2, c3, c4⟩ := cells5 R0
  have rr : W.drew.heap[g]? = some (.cells #[.int .i64 T, .int .i64 M, .int .i64 R, .int .i64 S, .int .i64 V] 30 (0, 0)) := R0
  have zz : g < W.drew.heap.size := (show g < W.heap.size by omega)
  have kb : Below g w W.drew := B0.drew
  have hslen : (stBits T M R S V).length ≤ 16777216 := by rw [stBits_len]; omega
  have zW : W.drew.heap.size = W.heap.size := rfl
  go_upto_region 3 with fail
  go_region_held3 (fun w' => w'.cell? ⟨g, 0, none⟩ = some (.int .i64 T) ∧ w'.cell? ⟨g, 1, none⟩ = some (.int .i64 M) ∧ w'.cell? ⟨g, 2, none⟩ = some (.int .i64 R) ∧ w'.cell? ⟨g, 3, none⟩ = some (.int .i64 S) ∧ w'.cell? ⟨g, 4, none⟩ = some (.int .i64 V)) (go_keep) (first
    | (go_at_call 106; refine (s_l02Feed id _ _ _ (stBits T M R S V) _ _ i9 (by omega) hid HS.out).mono ?_; rintro e w5 ⟨rfl, b5⟩; have z5 := b5.size; have zz5 : g < w5.heap.size := (by omega); have kb5 := kb9.trans (b5.mono (by omega)); have rr5 := (b5.block g zz9).trans rr9; obtain ⟨c0, c1, c2, c3, c4⟩ := cells5 rr5)
    | (go_at_call 94; refine (s_l04Bits T M R S V _ hT hM hR hS hV).mono ?_; rintro e w2 ⟨u2, rfl, o2, b2⟩; obtain ⟨A2, cc2, rfl, i9'⟩ := o2.ints hslen; have z2 := b2.size; have rr9 := (b2.block g zz3).trans rr3; have zz9 : g < w2.heap.size := (by omega); have kb9 := kb3.trans (b2.mono (by omega)); have i9 := i9'.more (Nat.le_refl _); have zl9 : w2.heap.size < w2.heap.size + 1 := Nat.lt_succ_self _; obtain ⟨c0, c1, c2, c3, c4⟩ := cells5 rr9)
    | (go_at_call 94; refine (s_l04Bits T M R S V _ hT hM hR hS hV).mono ?_; rintro e w2 ⟨u2, rfl, o2, b2⟩; obtain ⟨A2, cc2, rfl, i2⟩ := o2.ints hslen; have z2 := b2.size; have rr2 := (b2.block g zz).trans rr; have zz2 : g < w2.heap.size := (by omega); have kb2 := kb.trans (b2.mono (by omega)); obtain ⟨c0, c1, c2, c3, c4⟩ := cells5 rr2)
    | (go_at_call 107; refine (s_StdCrc _).mono ?_; rintro e w3 ⟨rfl, b3⟩; have z3 := b3.size; have rr9 := (b3.block g zz2).trans rr2; have zz9 : g < w3.heap.size := (by omega); have kb9 := kb2.trans (b3.mono (by omega)); have i9 := i2.below b3; have zl9 : w2.heap.size < w3.heap.size + 1 := (by omega); obtain ⟨c0, c1, c2, c3, c4⟩ := cells5 rr9)
    | (go_at_call 107; refine (s_StdCrc _).mono ?_; rintro e w3 ⟨rfl, b3⟩; have z3 := b3.size; have rr3 := (b3.block g zz).trans rr; have zz3 : g < w3.heap.size := (by omega); have kb3 := kb.trans (b3.mono (by omega)); obtain ⟨c0, c1, c2, c3, c4⟩ := cells5 rr3))
  have I5 := HH.out.below' hB kb5
  go_wp2_with (first
    | (go_at_call 107; refine (s_StdCrc _).mono ?_; rintro e w6 ⟨rfl, b6⟩; have z6 := b6.size; have I6 := I5.below' (by omega) b6; have B6 := kb5.trans (b6.mono (by omega)))
    | (go_at_call 100; refine (s_l01Bits _ _ _ xs _ _ I6 (by omega) HX.out (by omega)).mono ?_; rintro e w7 ⟨u7, rfl, o7, b7⟩; obtain ⟨A7, d7', rfl, i7⟩ := o7.ints hbl; have z7 := b7.size; have B7 := B6.trans (b7.mono (by omega)))
    | (go_at_call 106; refine (s_l02Feed _ _ _ _ _ _ _ i7 (Nat.le_refl _) HR HB.out).mono ?_; rintro e w8 ⟨rfl, b8⟩))
  go_ret
  exact ⟨rfl, by rw [hg]; exact B7.trans (b8.mono (by omega))⟩
end Go.Proofs.Ytpcdachkmekjgaa

/- The draws of states. -/
import Derived.Test.YtecelofoffdjlaaDrawD
namespace Go.Proofs.Ytecelofoffdjlaa
open Go.RowKit
set_option linter.unusedSimpArgs false
set_option linter.unusedVariables false
structure DT (w : World) (B g b : Nat) (t m r s v : Int) (W : World) : Prop where
  src : Src W B g
  g : w.grownBy W (some g)
  rr : W.heap[w.heap.size]? = some (.cells #[.int .i64 0, .int .i64 0, .int .i64 0, .int .i64 0, .int .i64 0] 45 (0, 0))
  rb : W.heap[b]? = some (.cells #[.int .i64 t, .int .i64 m, .int .i64 r, .int .i64 s, .int .i64 v] 45 (0, 0))
section
variable {w W : World} {B g b : Nat} {t m r s v : Int}
theorem DT.next (h : DT w B g b t m r s v W) (hl : g < w.heap.size) (hb : w.heap.size < b) {W' : World} (S' : Src W' B g) (g' : W.grownBy W' (some g)) : DT w B g b t m r s v W' :=
  ⟨S', grown_trans' h.g g' (.inl rfl), zkeep h.rr g' (by omega), zkeep h.rb g' (by omega)⟩
theorem DT.alloc (h : DT w B g b t m r s v W) (o : Obj) : DT w B g b t m r s v (W.alloc o) :=
  ⟨h.src.alloc o, grown_alloc h.g o, (Below.heap_alloc W o _ (Below.ltK h.rr)).trans h.rr, (Below.heap_alloc W o _ (Below.ltK h.rb)).trans h.rb⟩
theorem DT.set {i : Nat} {u : Value} {t' m' r' s' v' : Int} (h : DT w B g b t m r s v W) (hl : g < w.heap.size) (hb : w.heap.size < b) (hB : B ≤ g)
    (hr : (W.setCell ⟨b, i, none⟩ u).heap[b]? = some (.cells #[.int .i64 t', .int .i64 m', .int .i64 r', .int .i64 s', .int .i64 v'] 45 (0, 0))) : DT w B g b t' m' r' s' v' (W.setCell ⟨b, i, none⟩ u) :=
  ⟨src_set h.src (by omega) (by omega) i u, grown_set (p := ⟨b, i, none⟩) h.g (.inr (Nat.le_of_lt hb)) u, (heap_setCell_other _ _ _ _ (by show w.heap.size ≠ b; omega)).trans h.rr, hr⟩
end
def DrewS (B g : Nat) (w : World) (e : Ending) (w' : World) : Prop := ∃ t m r s v : Int, e = .returned (.agg #[.int .i64 t, .int .i64 m, .int .i64 r, .int .i64 s, .int .i64 v]) ∧ Src w' B g ∧ w.grownBy w' (some g)
set_option maxHeartbeats 2000000 in
theorem s_l04Draw (g B : Nat) (w : World) (h : Src w B g) :
    Calls Try.prog 125 #[.pointer (some ⟨g, 0, none⟩)] w (DrewS B g w) := by
  have hl := h.lt
  have hBg := h.1
  go_enter Try.func125, Try.ntmps125
  go_wp2_with fail
  have S0 := h.alloc (.cells #[.int .i64 0, .int .i64 0, .int .i64 0, .int .i64 0, .int .i64 0] 45)
  have G0 : w.grownBy (w.alloc (.cells #[.int .i64 0, .int .i64 0, .int .i64 0, .int .i64 0, .int .i64 0] 45)) (some g) := grown_alloc (World.grownBy.refl _ _) _
  have R0 := heap_alloc_new w (.cells #[.int .i64 0, .int .i64 0, .int .i64 0, .int .i64 0, .int .i64 0] 45)
  clear h
  refine (s_l01Next g B 200 _ S0).mono ?_
  rintro e w1 ⟨t, rfl, _, _, S1, g1⟩
  have G1 := grown_trans' G0 g1 (.inl rfl)
  have R1 := zkeep R0 g1 (by omega)
  clear S0 G0 R0 g1
  go_wp2_with fail
  refine (s_l01Next g B 3 _ S1).mono ?_
  rintro e w2 ⟨m, rfl, _, _, S2, g2⟩
  have G2 := grown_trans' G1 g2 (.inl rfl)
  have R2 := zkeep R1 g2 (by omega)
  clear S1 G1 R1 g2
  go_wp2_with fail
  refine (s_l01Next g B 3 _ S2).mono ?_
  rintro e w3 ⟨r, rfl, _, _, S3, g3⟩
  have G3 := grown_trans' G2 g3 (.inl rfl)
  have R3 := zkeep R2 g3 (by omega)
  clear S2 G2 R2 g3
  go_wp2_with fail
  refine (s_l01Next g B 6 _ S3).mono ?_
  rintro e w4 ⟨s, rfl, _, _, S4, g4⟩
  have G4 := grown_trans' G3 g4 (.inl rfl)
  have R4 := zkeep R3 g4 (by omega)
  clear S3 G3 R3 g4
  go_wp2_with fail
  refine (s_l01Next g B 256 _ S4).mono ?_
  rintro e w5 ⟨v, rfl, _, _, S5, g5⟩
  have G5 := grown_trans' G4 g5 (.inl rfl)
  have R5 := zkeep R4 g5 (by omega)
  clear S4 G4 R4 g5
  go_wp2_with fail
  have z3 := Below.ltK R5
  have D0 : DT w B g w5.heap.size t m r s v (w5.alloc (.cells #[.int .i64 t, .int .i64 m, .int .i64 r, .int .i64 s, .int .i64 v] 45)) := ⟨S5.alloc _, grown_alloc G5 _, (Below.heap_alloc w5 _ _ z3).trans R5, heap_alloc_new w5 _⟩
  clear S5 G5 R5
  generalize w5.alloc _ = W at D0 ⊢
  generalize w5.heap.size = b at D0 z3 ⊢
  refine (s_l01Next g B 8 _ D0.src).mono ?_
  rintro e w6 ⟨r6, rfl, _, _, S6, g6⟩
  have D6 := D0.next hl z3 S6 g6
  clear D0 S6 g6
  obtain ⟨d0, d1, d2, d3, d4⟩ := desc_cells D6.rb
  cases h6 : (r6 == 0)
  · go_upto_region 4 with fail
    clear d0 d1 d2 d3 d4
    have hD9 : ∃ ft fm fr fs fv, DT w B g b ft fm fr fs fv w6 := ⟨_, _, _, _, _, D6⟩
    clear D6
    obtain ⟨ft, fm, fr, fs, fv, D9⟩ := hD9
    obtain ⟨d0, d1, d2, d3, d4⟩ := desc_cells D9.rb
    obtain ⟨e0, e1, e2, e3, e4⟩ := desc_cells D9.rr
    have l0 := frozen_of_row _ _ 0 _ _ D9.rr
    have l1 := frozen_of_row _ _ 1 _ _ D9.rr
    have l2 := frozen_of_row _ _ 2 _ _ D9.rr
    have l3 := frozen_of_row _ _ 3 _ _ D9.rr
    have l4 := frozen_of_row _ _ 4 _ _ D9.rr
    have RR := Lib.hid (five_heap (v0 := .int .i64 ft) (v1 := .int .i64 fm) (v2 := .int .i64 fr) (v3 := .int .i64 fs) (v4 := .int .i64 fv) D9.rr)
    have SS := Lib.hid (src_set (src_set (src_set (src_set (src_set D9.src (b := w.heap.size) (by omega) (by omega) 0 (.int .i64 ft)) (b := w.heap.size) (by omega) (by omega) 1 (.int .i64 fm)) (b := w.heap.size) (by omega) (by omega) 2 (.int .i64 fr)) (b := w.heap.size) (by omega) (by omega) 3 (.int .i64 fs)) (b := w.heap.size) (by omega) (by omega) 4 (.int .i64 fv))
    have GG := Lib.hid (grown_set (p := ⟨w.heap.size, 4, none⟩) (grown_set (p := ⟨w.heap.size, 3, none⟩) (grown_set (p := ⟨w.heap.size, 2, none⟩) (grown_set (p := ⟨w.heap.size, 1, none⟩) (grown_set (p := ⟨w.heap.size, 0, none⟩) D9.g (.inr (Nat.le_refl _)) (.int .i64 ft)) (.inr (Nat.le_refl _)) (.int .i64 fm)) (.inr (Nat.le_refl _)) (.int .i64 fr)) (.inr (Nat.le_refl _)) (.int .i64 fs)) (.inr (Nat.le_refl _)) (.int .i64 fv))
    clear D9
    go_wp2
    have R := RR.out; have S := SS.out; have G := GG.out
    clear RR SS GG d0 d1 d2 d3 d4 e0 e1 e2 e3 e4 l0 l1 l2 l3 l4
    revert R S G
    generalize World.setCell _ _ _ = WF
    intro R S G
    obtain ⟨e0, e1, e2, e3, e4⟩ := desc_cells R
    exact bodyPost_ret (v := .agg #[.int .i64 ft, .int .i64 fm, .int .i64 fr, .int .i64 fs, .int .i64 fv]) (by simp [results, Try.results125, go_sem, e0, e1, e2, e3, e4]) rfl ⟨_, _, _, _, _, rfl, S, G⟩
  · clear d0 d1 d2 d3 d4
    go_wp2_with fail
    refine (s_l01Next g B 9 _ D6.src).mono ?_
    rintro e w7 ⟨r7, rfl, a7, b7, S7, g7⟩
    have D7 := D6.next hl z3 S7 g7
    have c7 : r7 < 9 := (by omega)
    clear D6 S7 g7 b7
    go_wp2_with fail
    refine (s_l01Next g B 16 _ D7.src).mono ?_
    rintro e w8 ⟨r8, rfl, a8, b8, S8, g8⟩
    have D8 := D7.next hl z3 S8 g8
    have c8 : r8 < 16 := (by omega)
    clear D7 S8 g8 b8
    go_wp2_with fail
    refine (s_l01Next g B 16 _ D8.src).mono ?_
    rintro e w9 ⟨r9, rfl, a9, b9, S9, g9⟩
    have D9 := D8.next hl z3 S9 g9
    have c9 : r9 < 16 := (by omega)
    clear D8 S9 g9 b9
    go_wp2_with fail
    refine (s_l01Next g B 256 _ D9.src).mono ?_
    rintro e w10 ⟨r10, rfl, a10, b10, S10, g10⟩
    have D10 := D9.next hl z3 S10 g10
    have c10 : r10 < 256 := (by omega)
    clear D9 S10 g10 b10
    go_wp2_with fail
    refine (s_l01Next g B 99 _ D10.src).mono ?_
    rintro e w11 ⟨r11, rfl, a11, b11, S11, g11⟩
    have D11 := D10.next hl z3 S11 g11
    have c11 : r11 < 99 := (by omega)
    clear D10 S11 g11 b11
    obtain ⟨d0, d1, d2, d3, d4⟩ := desc_cells D11.rb
    have l0 := frozen_of_row _ _ 0 _ _ D11.rb
    have l1 := frozen_of_row _ _ 1 _ _ D11.rb
    have l2 := frozen_of_row _ _ 2 _ _ D11.rb
    have l3 := frozen_of_row _ _ 3 _ _ D11.rb
    have l4 := frozen_of_row _ _ 4 _ _ D11.rb
    have hE : DT w B g b (65535 - r7) r8 r9 r10 (4294967295 - r11) _ := ⟨(src_set (src_set (src_set (src_set (src_set D11.src (b := b) (by omega) (by omega) 0 (.int .i64 (65535 - r7))) (b := b) (by omega) (by omega) 1 (.int .i64 r8)) (b := b) (by omega) (by omega) 2 (.int .i64 r9)) (b := b) (by omega) (by omega) 3 (.int .i64 r10)) (b := b) (by omega) (by omega) 4 (.int .i64 (4294967295 - r11))), (grown_set (p := ⟨b, 4, none⟩) (grown_set (p := ⟨b, 3, none⟩) (grown_set (p := ⟨b, 2, none⟩) (grown_set (p := ⟨b, 1, none⟩) (grown_set (p := ⟨b, 0, none⟩) D11.g (.inr (Nat.le_of_lt z3)) (.int .i64 (65535 - r7))) (.inr (Nat.le_of_lt z3)) (.int .i64 r8)) (.inr (Nat.le_of_lt z3)) (.int .i64 r9)) (.inr (Nat.le_of_lt z3)) (.int .i64 r10)) (.inr (Nat.le_of_lt z3)) (.int .i64 (4294967295 - r11))), (five_other (by omega)).trans D11.rr, five_heap (v0 := .int .i64 (65535 - r7)) (v1 := .int .i64 r8) (v2 := .int .i64 r9) (v3 := .int .i64 r10) (v4 := .int .i64 (4294967295 - r11)) D11.rb⟩
    have HE := Lib.hid hE
    clear hE D11
    go_upto_region 4 with fail
    have hE := HE.out
    clear HE d0 d1 d2 d3 d4 l0 l1 l2 l3 l4
    generalize World.setCell _ _ _ = W7 at hE ⊢
    have hD9 : ∃ ft fm fr fs fv, DT w B g b ft fm fr fs fv W7 := ⟨_, _, _, _, _, hE⟩
    clear hE
    obtain ⟨ft, fm, fr, fs, fv, D9⟩ := hD9
    obtain ⟨d0, d1, d2, d3, d4⟩ := desc_cells D9.rb
    obtain ⟨e0, e1, e2, e3, e4⟩ := desc_cells D9.rr
    have l0 := frozen_of_row _ _ 0 _ _ D9.rr
    have l1 := frozen_of_row _ _ 1 _ _ D9.rr
    have l2 := frozen_of_row _ _ 2 _ _ D9.rr
    have l3 := frozen_of_row _ _ 3 _ _ D9.rr
    have l4 := frozen_of_row _ _ 4 _ _ D9.rr
    have RR := Lib.hid (five_heap (v0 := .int .i64 ft) (v1 := .int .i64 fm) (v2 := .int .i64 fr) (v3 := .int .i64 fs) (v4 := .int .i64 fv) D9.rr)
    have SS := Lib.hid (src_set (src_set (src_set (src_set (src_set D9.src (b := w.heap.size) (by omega) (by omega) 0 (.int .i64 ft)) (b := w.heap.size) (by omega) (by omega) 1 (.int .i64 fm)) (b := w.heap.size) (by omega) (by omega) 2 (.int .i64 fr)) (b := w.heap.size) (by omega) (by omega) 3 (.int .i64 fs)) (b := w.heap.size) (by omega) (by omega) 4 (.int .i64 fv))
    have GG := Lib.hid (grown_set (p := ⟨w.heap.size, 4, none⟩) (grown_set (p := ⟨w.heap.size, 3, none⟩) (grown_set (p := ⟨w.heap.size, 2, none⟩) (grown_set (p := ⟨w.heap.size, 1, none⟩) (grown_set (p := ⟨w.heap.size, 0, none⟩) D9.g (.inr (Nat.le_refl _)) (.int .i64 ft)) (.inr (Nat.le_refl _)) (.int .i64 fm)) (.inr (Nat.le_refl _)) (.int .i64 fr)) (.inr (Nat.le_refl _)) (.int .i64 fs)) (.inr (Nat.le_refl _)) (.int .i64 fv))
    clear D9
    go_wp2
    have R := RR.out; have S := SS.out; have G := GG.out
    clear RR SS GG d0 d1 d2 d3 d4 e0 e1 e2 e3 e4 l0 l1 l2 l3 l4
    revert R S G
    generalize World.setCell _ _ _ = WF
    intro R S G
    obtain ⟨e0, e1, e2, e3, e4⟩ := desc_cells R
    exact bodyPost_ret (v := .agg #[.int .i64 ft, .int .i64 fm, .int .i64 fr, .int .i64 fs, .int .i64 fv]) (by simp [results, Try.results125, go_sem, e0, e1, e2, e3, e4]) rfl ⟨_, _, _, _, _, rfl, S, G⟩
theorem getS0 (q : Nat) (h : (q : Int) < 3) : ∃ v : Int, (#[Value.int .i64 (-1), Value.int .i64 65535, Value.int .i64 65536] : Array Value)[q]? = some (.int .i64 v) := by
  have h' : q < 3 := by omega
  match q, h' with
  | 0, _ => exact ⟨-1, rfl⟩
  | 1, _ => exact ⟨65535, rfl⟩
  | 2, _ => exact ⟨65536, rfl⟩
theorem getS1 (q : Nat) (h : (q : Int) < 2) : ∃ v : Int, (#[Value.int .i64 (-1), Value.int .i64 16] : Array Value)[q]? = some (.int .i64 v) := by
  have h' : q < 2 := by omega
  match q, h' with
  | 0, _ => exact ⟨-1, rfl⟩
  | 1, _ => exact ⟨16, rfl⟩
theorem getS2 (q : Nat) (h : (q : Int) < 2) : ∃ v : Int, (#[Value.int .i64 (-1), Value.int .i64 16] : Array Value)[q]? = some (.int .i64 v) := by
  have h' : q < 2 := by omega
  match q, h' with
  | 0, _ => exact ⟨-1, rfl⟩
  | 1, _ => exact ⟨16, rfl⟩
theorem getS3 (q : Nat) (h : (q : Int) < 2) : ∃ v : Int, (#[Value.int .i64 (-1), Value.int .i64 256] : Array Value)[q]? = some (.int .i64 v) := by
  have h' : q < 2 := by omega
  match q, h' with
  | 0, _ => exact ⟨-1, rfl⟩
  | 1, _ => exact ⟨256, rfl⟩
theorem getS4 (q : Nat) (h : (q : Int) < 2) : ∃ v : Int, (#[Value.int .i64 (-1), Value.int .i64 4294967296] : Array Value)[q]? = some (.int .i64 v) := by
  have h' : q < 2 := by omega
  match q, h' with
  | 0, _ => exact ⟨-1, rfl⟩
  | 1, _ => exact ⟨4294967296, rfl⟩
set_option maxHeartbeats 4000000 in
theorem s_l04DrawAny (g B : Nat) (w : World) (h : Src w B g) :
    Calls Try.prog 110 #[.pointer (some ⟨g, 0, none⟩)] w (DrewS B g w) := by
  have hl := h.lt
  have hBg := h.1
  go_enter Try.func110, Try.ntmps110
  go_wp2_with fail
  have S0 := h.alloc (.cells #[.int .i64 0, .int .i64 0, .int .i64 0, .int .i64 0, .int .i64 0] 45)
  have G0 : w.grownBy (w.alloc (.cells #[.int .i64 0, .int .i64 0, .int .i64 0, .int .i64 0, .int .i64 0] 45)) (some g) := grown_alloc (World.grownBy.refl _ _) _
  have R0 := heap_alloc_new w (.cells #[.int .i64 0, .int .i64 0, .int .i64 0, .int .i64 0, .int .i64 0] 45)
  refine (s_l04Draw g B _ S0).mono ?_
  rintro e w1 ⟨t, m, r, s, v, rfl, S1, g1⟩
  have G1 := grown_trans' G0 g1 (.inl rfl)
  have R1 := zkeep R0 g1 (by omega)
  have z3 := Below.ltK R1
  clear S0 G0 R0 g1 h
  go_wp2_with fail
  have D0 : DT w B g w1.heap.size t m r s v (w1.alloc (.cells #[.int .i64 t, .int .i64 m, .int .i64 r, .int .i64 s, .int .i64 v] 45)) := ⟨S1.alloc _, grown_alloc G1 _, (Below.heap_alloc w1 _ _ z3).trans R1, heap_alloc_new w1 _⟩
  clear S1 G1 R1
  generalize w1.alloc _ = W at D0 ⊢
  generalize w1.heap.size = b at D0 z3 ⊢
  refine (s_l01Next g B 30 _ D0.src).mono ?_
  rintro e w2 ⟨q, rfl, _, _, S2, g2⟩
  have D2 := D0.next hl z3 S2 g2
  clear D0 S2 g2
  obtain ⟨d0, d1, d2, d3, d4⟩ := desc_cells D2.rb
  cases h0 : (q == 0)
  · cases h1 : (q == 1)
    · cases h2 : (q == 2)
      · cases h3 : (q == 3)
        · cases h4 : (q == 4)
          · go_upto_region 13 with fail
            clear d0 d1 d2 d3 d4
            have hD9 : ∃ ft fm fr fs fv, DT w B g b ft fm fr fs fv w2 := ⟨_, _, _, _, _, D2⟩
            clear D2
            obtain ⟨ft, fm, fr, fs, fv, D9⟩ := hD9
            obtain ⟨d0, d1, d2, d3, d4⟩ := desc_cells D9.rb
            obtain ⟨e0, e1, e2, e3, e4⟩ := desc_cells D9.rr
            have l0 := frozen_of_row _ _ 0 _ _ D9.rr
            have l1 := frozen_of_row _ _ 1 _ _ D9.rr
            have l2 := frozen_of_row _ _ 2 _ _ D9.rr
            have l3 := frozen_of_row _ _ 3 _ _ D9.rr
            have l4 := frozen_of_row _ _ 4 _ _ D9.rr
            have RR := Lib.hid (five_heap (v0 := .int .i64 ft) (v1 := .int .i64 fm) (v2 := .int .i64 fr) (v3 := .int .i64 fs) (v4 := .int .i64 fv) D9.rr)
            have SS := Lib.hid (src_set (src_set (src_set (src_set (src_set D9.src (b := w.heap.size) (by omega) (by omega) 0 (.int .i64 ft)) (b := w.heap.size) (by omega) (by omega) 1 (.int .i64 fm)) (b := w.heap.size) (by omega) (by omega) 2 (.int .i64 fr)) (b := w.heap.size) (by omega) (by omega) 3 (.int .i64 fs)) (b := w.heap.size) (by omega) (by omega) 4 (.int .i64 fv))
            have GG := Lib.hid (grown_set (p := ⟨w.heap.size, 4, none⟩) (grown_set (p := ⟨w.heap.size, 3, none⟩) (grown_set (p := ⟨w.heap.size, 2, none⟩) (grown_set (p := ⟨w.heap.size, 1, none⟩) (grown_set (p := ⟨w.heap.size, 0, none⟩) D9.g (.inr (Nat.le_refl _)) (.int .i64 ft)) (.inr (Nat.le_refl _)) (.int .i64 fm)) (.inr (Nat.le_refl _)) (.int .i64 fr)) (.inr (Nat.le_refl _)) (.int .i64 fs)) (.inr (Nat.le_refl _)) (.int .i64 fv))
            clear D9
            go_wp2
            have R := RR.out; have S := SS.out; have G := GG.out
            clear RR SS GG d0 d1 d2 d3 d4 e0 e1 e2 e3 e4 l0 l1 l2 l3 l4
            revert R S G
            generalize World.setCell _ _ _ = WF
            intro R S G
            obtain ⟨e0, e1, e2, e3, e4⟩ := desc_cells R
            exact bodyPost_ret (v := .agg #[.int .i64 ft, .int .i64 fm, .int .i64 fr, .int .i64 fs, .int .i64 fv]) (by simp [results, Try.results110, go_sem, e0, e1, e2, e3, e4]) rfl ⟨_, _, _, _, _, rfl, S, G⟩
          · go_wp2_with fail
            have DA := D2.alloc (.cells #[.int .i64 (-1), .int .i64 4294967296] 2)
            refine (s_l01Next g B 2 _ DA.src).mono ?_
            rintro e w5 ⟨r5, rfl, r50, r51, S5, g5⟩
            have D5 := DA.next hl z3 S5 g5
            have hZ := zkeep (heap_alloc_new w2 (.cells #[.int .i64 (-1), .int .i64 4294967296] 2)) g5 (by have := D2.src.lt; omega)
            obtain ⟨q5, rfl⟩ := nat_of' r5 r50
            have q50 : (0 : Int) ≤ (q5 : Int) := r50
            have q51 : (q5 : Int) < 2 := (by omega)
            obtain ⟨v5, hv5⟩ := getS4 q5 q51
            have hc5 := row_get hZ hv5
            clear DA S5 g5 hZ hv5 r51 d0 d1 d2 d3 d4 D2
            obtain ⟨d0, d1, d2, d3, d4⟩ := desc_cells D5.rb
            have kk := frozen_of_row _ _ 4 _ _ D5.rb
            have hE := Lib.hid (D5.set (i := 4) (u := .int .i64 v5) hl z3 hBg (set4 D5.rb))
            clear D5
            go_upto_region 13 with fail
            have hE' := hE.out
            clear hE d0 d1 d2 d3 d4 kk hc5
            generalize World.setCell _ _ _ = W7 at hE' ⊢
            have hD9 : ∃ ft fm fr fs fv, DT w B g b ft fm fr fs fv W7 := ⟨_, _, _, _, _, hE'⟩
            clear hE'
            obtain ⟨ft, fm, fr, fs, fv, D9⟩ := hD9
            obtain ⟨d0, d1, d2, d3, d4⟩ := desc_cells D9.rb
            obtain ⟨e0, e1, e2, e3, e4⟩ := desc_cells D9.rr
            have l0 := frozen_of_row _ _ 0 _ _ D9.rr
            have l1 := frozen_of_row _ _ 1 _ _ D9.rr
            have l2 := frozen_of_row _ _ 2 _ _ D9.rr
            have l3 := frozen_of_row _ _ 3 _ _ D9.rr
            have l4 := frozen_of_row _ _ 4 _ _ D9.rr
            have RR := Lib.hid (five_heap (v0 := .int .i64 ft) (v1 := .int .i64 fm) (v2 := .int .i64 fr) (v3 := .int .i64 fs) (v4 := .int .i64 fv) D9.rr)
            have SS := Lib.hid (src_set (src_set (src_set (src_set (src_set D9.src (b := w.heap.size) (by omega) (by omega) 0 (.int .i64 ft)) (b := w.heap.size) (by omega) (by omega) 1 (.int .i64 fm)) (b := w.heap.size) (by omega) (by omega) 2 (.int .i64 fr)) (b := w.heap.size) (by omega) (by omega) 3 (.int .i64 fs)) (b := w.heap.size) (by omega) (by omega) 4 (.int .i64 fv))
            have GG := Lib.hid (grown_set (p := ⟨w.heap.size, 4, none⟩) (grown_set (p := ⟨w.heap.size, 3, none⟩) (grown_set (p := ⟨w.heap.size, 2, none⟩) (grown_set (p := ⟨w.heap.size, 1, none⟩) (grown_set (p := ⟨w.heap.size, 0, none⟩) D9.g (.inr (Nat.le_refl _)) (.int .i64 ft)) (.inr (Nat.le_refl _)) (.int .i64 fm)) (.inr (Nat.le_refl _)) (.int .i64 fr)) (.inr (Nat.le_refl _)) (.int .i64 fs)) (.inr (Nat.le_refl _)) (.int .i64 fv))
            clear D9
            go_wp2
            have R := RR.out; have S := SS.out; have G := GG.out
            clear RR SS GG d0 d1 d2 d3 d4 e0 e1 e2 e3 e4 l0 l1 l2 l3 l4
            revert R S G
            generalize World.setCell _ _ _ = WF
            intro R S G
            obtain ⟨e0, e1, e2, e3, e4⟩ := desc_cells R
            exact bodyPost_ret (v := .agg #[.int .i64 ft, .int .i64 fm, .int .i64 fr, .int .i64 fs, .int .i64 fv]) (by simp [results, Try.results110, go_sem, e0, e1, e2, e3, e4]) rfl ⟨_, _, _, _, _, rfl, S, G⟩
        · go_wp2_with fail
          have DA := D2.alloc (.cells #[.int .i64 (-1), .int .i64 256] 2)
          refine (s_l01Next g B 2 _ DA.src).mono ?_
          rintro e w5 ⟨r5, rfl, r50, r51, S5, g5⟩
          have D5 := DA.next hl z3 S5 g5
          have hZ := zkeep (heap_alloc_new w2 (.cells #[.int .i64 (-1), .int .i64 256] 2)) g5 (by have := D2.src.lt; omega)
          obtain ⟨q5, rfl⟩ := nat_of' r5 r50
          have q50 : (0 : Int) ≤ (q5 : Int) := r50
          have q51 : (q5 : Int) < 2 := (by omega)
          obtain ⟨v5, hv5⟩ := getS3 q5 q51
          have hc5 := row_get hZ hv5
          clear DA S5 g5 hZ hv5 r51 d0 d1 d2 d3 d4 D2
          obtain ⟨d0, d1, d2, d3, d4⟩ := desc_cells D5.rb
          have kk := frozen_of_row _ _ 3 _ _ D5.rb
          have hE := Lib.hid (D5.set (i := 3) (u := .int .i64 v5) hl z3 hBg (set3 D5.rb))
          clear D5
          go_upto_region 13 with fail
          have hE' := hE.out
          clear hE d0 d1 d2 d3 d4 kk hc5
          generalize World.setCell _ _ _ = W7 at hE' ⊢
          have hD9 : ∃ ft fm fr fs fv, DT w B g b ft fm fr fs fv W7 := ⟨_, _, _, _, _, hE'⟩
          clear hE'
          obtain ⟨ft, fm, fr, fs, fv, D9⟩ := hD9
          obtain ⟨d0, d1, d2, d3, d4⟩ := desc_cells D9.rb
          obtain ⟨e0, e1, e2, e3, e4⟩ := desc_cells D9.rr
          have l0 := frozen_of_row _ _ 0 _ _ D9.rr
          have l1 := frozen_of_row _ _ 1 _ _ D9.rr
          have l2 := frozen_of_row _ _ 2 _ _ D9.rr
          have l3 := frozen_of_row _ _ 3 _ _ D9.rr
          have l4 := frozen_of_row _ _ 4 _ _ D9.rr
          have RR := Lib.hid (five_heap (v0 := .int .i64 ft) (v1 := .int .i64 fm) (v2 := .int .i64 fr) (v3 := .int .i64 fs) (v4 := .int .i64 fv) D9.rr)
          have SS := Lib.hid (src_set (src_set (src_set (src_set (src_set D9.src (b := w.heap.size) (by omega) (by omega) 0 (.int .i64 ft)) (b := w.heap.size) (by omega) (by omega) 1 (.int .i64 fm)) (b := w.heap.size) (by omega) (by omega) 2 (.int .i64 fr)) (b := w.heap.size) (by omega) (by omega) 3 (.int .i64 fs)) (b := w.heap.size) (by omega) (by omega) 4 (.int .i64 fv))
          have GG := Lib.hid (grown_set (p := ⟨w.heap.size, 4, none⟩) (grown_set (p := ⟨w.heap.size, 3, none⟩) (grown_set (p := ⟨w.heap.size, 2, none⟩) (grown_set (p := ⟨w.heap.size, 1, none⟩) (grown_set (p := ⟨w.heap.size, 0, none⟩) D9.g (.inr (Nat.le_refl _)) (.int .i64 ft)) (.inr (Nat.le_refl _)) (.int .i64 fm)) (.inr (Nat.le_refl _)) (.int .i64 fr)) (.inr (Nat.le_refl _)) (.int .i64 fs)) (.inr (Nat.le_refl _)) (.int .i64 fv))
          clear D9
          go_wp2
          have R := RR.out; have S := SS.out; have G := GG.out
          clear RR SS GG d0 d1 d2 d3 d4 e0 e1 e2 e3 e4 l0 l1 l2 l3 l4
          revert R S G
          generalize World.setCell _ _ _ = WF
          intro R S G
          obtain ⟨e0, e1, e2, e3, e4⟩ := desc_cells R
          exact bodyPost_ret (v := .agg #[.int .i64 ft, .int .i64 fm, .int .i64 fr, .int .i64 fs, .int .i64 fv]) (by simp [results, Try.results110, go_sem, e0, e1, e2, e3, e4]) rfl ⟨_, _, _, _, _, rfl, S, G⟩
      · go_wp2_with fail
        have DA := D2.alloc (.cells #[.int .i64 (-1), .int .i64 16] 2)
        refine (s_l01Next g B 2 _ DA.src).mono ?_
        rintro e w5 ⟨r5, rfl, r50, r51, S5, g5⟩
        have D5 := DA.next hl z3 S5 g5
        have hZ := zkeep (heap_alloc_new w2 (.cells #[.int .i64 (-1), .int .i64 16] 2)) g5 (by have := D2.src.lt; omega)
        obtain ⟨q5, rfl⟩ := nat_of' r5 r50
        have q50 : (0 : Int) ≤ (q5 : Int) := r50
        have q51 : (q5 : Int) < 2 := (by omega)
        obtain ⟨v5, hv5⟩ := getS2 q5 q51
        have hc5 := row_get hZ hv5
        clear DA S5 g5 hZ hv5 r51 d0 d1 d2 d3 d4 D2
        obtain ⟨d0, d1, d2, d3, d4⟩ := desc_cells D5.rb
        have kk := frozen_of_row _ _ 2 _ _ D5.rb
        have hE := Lib.hid (D5.set (i := 2) (u := .int .i64 v5) hl z3 hBg (set2 D5.rb))
        clear D5
        go_upto_region 13 with fail
        have hE' := hE.out
        clear hE d0 d1 d2 d3 d4 kk hc5
        generalize World.setCell _ _ _ = W7 at hE' ⊢
        have hD9 : ∃ ft fm fr fs fv, DT w B g b ft fm fr fs fv W7 := ⟨_, _, _, _, _, hE'⟩
        clear hE'
        obtain ⟨ft, fm, fr, fs, fv, D9⟩ := hD9
        obtain ⟨d0, d1, d2, d3, d4⟩ := desc_cells D9.rb
        obtain ⟨e0, e1, e2, e3, e4⟩ := desc_cells D9.rr
        have l0 := frozen_of_row _ _ 0 _ _ D9.rr
        have l1 := frozen_of_row _ _ 1 _ _ D9.rr
        have l2 := frozen_of_row _ _ 2 _ _ D9.rr
        have l3 := frozen_of_row _ _ 3 _ _ D9.rr
        have l4 := frozen_of_row _ _ 4 _ _ D9.rr
        have RR := Lib.hid (five_heap (v0 := .int .i64 ft) (v1 := .int .i64 fm) (v2 := .int .i64 fr) (v3 := .int .i64 fs) (v4 := .int .i64 fv) D9.rr)
        have SS := Lib.hid (src_set (src_set (src_set (src_set (src_set D9.src (b := w.heap.size) (by omega) (by omega) 0 (.int .i64 ft)) (b := w.heap.size) (by omega) (by omega) 1 (.int .i64 fm)) (b := w.heap.size) (by omega) (by omega) 2 (.int .i64 fr)) (b := w.heap.size) (by omega) (by omega) 3 (.int .i64 fs)) (b := w.heap.size) (by omega) (by omega) 4 (.int .i64 fv))
        have GG := Lib.hid (grown_set (p := ⟨w.heap.size, 4, none⟩) (grown_set (p := ⟨w.heap.size, 3, none⟩) (grown_set (p := ⟨w.heap.size, 2, none⟩) (grown_set (p := ⟨w.heap.size, 1, none⟩) (grown_set (p := ⟨w.heap.size, 0, none⟩) D9.g (.inr (Nat.le_refl _)) (.int .i64 ft)) (.inr (Nat.le_refl _)) (.int .i64 fm)) (.inr (Nat.le_refl _)) (.int .i64 fr)) (.inr (Nat.le_refl _)) (.int .i64 fs)) (.inr (Nat.le_refl _)) (.int .i64 fv))
        clear D9
        go_wp2
        have R := RR.out; have S := SS.out; have G := GG.out
        clear RR SS GG d0 d1 d2 d3 d4 e0 e1 e2 e3 e4 l0 l1 l2 l3 l4
        revert R S G
        generalize World.setCell _ _ _ = WF
        intro R S G
        obtain ⟨e0, e1, e2, e3, e4⟩ := desc_cells R
        exact bodyPost_ret (v := .agg #[.int .i64 ft, .int .i64 fm, .int .i64 fr, .int .i64 fs, .int .i64 fv]) (by simp [results, Try.results110, go_sem, e0, e1, e2, e3, e4]) rfl ⟨_, _, _, _, _, rfl, S, G⟩
    · go_wp2_with fail
      have DA := D2.alloc (.cells #[.int .i64 (-1), .int .i64 16] 2)
      refine (s_l01Next g B 2 _ DA.src).mono ?_
      rintro e w5 ⟨r5, rfl, r50, r51, S5, g5⟩
      have D5 := DA.next hl z3 S5 g5
      have hZ := zkeep (heap_alloc_new w2 (.cells #[.int .i64 (-1), .int .i64 16] 2)) g5 (by have := D2.src.lt; omega)
      obtain ⟨q5, rfl⟩ := nat_of' r5 r50
      have q50 : (0 : Int) ≤ (q5 : Int) := r50
      have q51 : (q5 : Int) < 2 := (by omega)
      obtain ⟨v5, hv5⟩ := getS1 q5 q51
      have hc5 := row_get hZ hv5
      clear DA S5 g5 hZ hv5 r51 d0 d1 d2 d3 d4 D2
      obtain ⟨d0, d1, d2, d3, d4⟩ := desc_cells D5.rb
      have kk := frozen_of_row _ _ 1 _ _ D5.rb
      have hE := Lib.hid (D5.set (i := 1) (u := .int .i64 v5) hl z3 hBg (set1 D5.rb))
      clear D5
      go_upto_region 13 with fail
      have hE' := hE.out
      clear hE d0 d1 d2 d3 d4 kk hc5
      generalize World.setCell _ _ _ = W7 at hE' ⊢
      have hD9 : ∃ ft fm fr fs fv, DT w B g b ft fm fr fs fv W7 := ⟨_, _, _, _, _, hE'⟩
      clear hE'
      obtain ⟨ft, fm, fr, fs, fv, D9⟩ := hD9
      obtain ⟨d0, d1, d2, d3, d4⟩ := desc_cells D9.rb
      obtain ⟨e0, e1, e2, e3, e4⟩ := desc_cells D9.rr
      have l0 := frozen_of_row _ _ 0 _ _ D9.rr
      have l1 := frozen_of_row _ _ 1 _ _ D9.rr
      have l2 := frozen_of_row _ _ 2 _ _ D9.rr
      have l3 := frozen_of_row _ _ 3 _ _ D9.rr
      have l4 := frozen_of_row _ _ 4 _ _ D9.rr
      have RR := Lib.hid (five_heap (v0 := .int .i64 ft) (v1 := .int .i64 fm) (v2 := .int .i64 fr) (v3 := .int .i64 fs) (v4 := .int .i64 fv) D9.rr)
      have SS := Lib.hid (src_set (src_set (src_set (src_set (src_set D9.src (b := w.heap.size) (by omega) (by omega) 0 (.int .i64 ft)) (b := w.heap.size) (by omega) (by omega) 1 (.int .i64 fm)) (b := w.heap.size) (by omega) (by omega) 2 (.int .i64 fr)) (b := w.heap.size) (by omega) (by omega) 3 (.int .i64 fs)) (b := w.heap.size) (by omega) (by omega) 4 (.int .i64 fv))
      have GG := Lib.hid (grown_set (p := ⟨w.heap.size, 4, none⟩) (grown_set (p := ⟨w.heap.size, 3, none⟩) (grown_set (p := ⟨w.heap.size, 2, none⟩) (grown_set (p := ⟨w.heap.size, 1, none⟩) (grown_set (p := ⟨w.heap.size, 0, none⟩) D9.g (.inr (Nat.le_refl _)) (.int .i64 ft)) (.inr (Nat.le_refl _)) (.int .i64 fm)) (.inr (Nat.le_refl _)) (.int .i64 fr)) (.inr (Nat.le_refl _)) (.int .i64 fs)) (.inr (Nat.le_refl _)) (.int .i64 fv))
      clear D9
      go_wp2
      have R := RR.out; have S := SS.out; have G := GG.out
      clear RR SS GG d0 d1 d2 d3 d4 e0 e1 e2 e3 e4 l0 l1 l2 l3 l4
      revert R S G
      generalize World.setCell _ _ _ = WF
      intro R S G
      obtain ⟨e0, e1, e2, e3, e4⟩ := desc_cells R
      exact bodyPost_ret (v := .agg #[.int .i64 ft, .int .i64 fm, .int .i64 fr, .int .i64 fs, .int .i64 fv]) (by simp [results, Try.results110, go_sem, e0, e1, e2, e3, e4]) rfl ⟨_, _, _, _, _, rfl, S, G⟩
  · go_wp2_with fail
    have DA := D2.alloc (.cells #[.int .i64 (-1), .int .i64 65535, .int .i64 65536] 2)
    refine (s_l01Next g B 3 _ DA.src).mono ?_
    rintro e w5 ⟨r5, rfl, r50, r51, S5, g5⟩
    have D5 := DA.next hl z3 S5 g5
    have hZ := zkeep (heap_alloc_new w2 (.cells #[.int .i64 (-1), .int .i64 65535, .int .i64 65536] 2)) g5 (by have := D2.src.lt; omega)
    obtain ⟨q5, rfl⟩ := nat_of' r5 r50
    have q50 : (0 : Int) ≤ (q5 : Int) := r50
    have q51 : (q5 : Int) < 3 := (by omega)
    obtain ⟨v5, hv5⟩ := getS0 q5 q51
    have hc5 := row_get hZ hv5
    clear DA S5 g5 hZ hv5 r51 d0 d1 d2 d3 d4 D2
    obtain ⟨d0, d1, d2, d3, d4⟩ := desc_cells D5.rb
    have kk := frozen_of_row _ _ 0 _ _ D5.rb
    have hE := Lib.hid (D5.set (i := 0) (u := .int .i64 v5) hl z3 hBg (set0 D5.rb))
    clear D5
    go_upto_region 13 with fail
    have hE' := hE.out
    clear hE d0 d1 d2 d3 d4 kk hc5
    generalize World.setCell _ _ _ = W7 at hE' ⊢
    have hD9 : ∃ ft fm fr fs fv, DT w B g b ft fm fr fs fv W7 := ⟨_, _, _, _, _, hE'⟩
    clear hE'
    obtain ⟨ft, fm, fr, fs, fv, D9⟩ := hD9
    obtain ⟨d0, d1, d2, d3, d4⟩ := desc_cells D9.rb
    obtain ⟨e0, e1, e2, e3, e4⟩ := desc_cells D9.rr
    have l0 := frozen_of_row _ _ 0 _ _ D9.rr
    have l1 := frozen_of_row _ _ 1 _ _ D9.rr
    have l2 := frozen_of_row _ _ 2 _ _ D9.rr
    have l3 := frozen_of_row _ _ 3 _ _ D9.rr
    have l4 := frozen_of_row _ _ 4 _ _ D9.rr
    have RR := Lib.hid (five_heap (v0 := .int .i64 ft) (v1 := .int .i64 fm) (v2 := .int .i64 fr) (v3 := .int .i64 fs) (v4 := .int .i64 fv) D9.rr)
    have SS := Lib.hid (src_set (src_set (src_set (src_set (src_set D9.src (b := w.heap.size) (by omega) (by omega) 0 (.int .i64 ft)) (b := w.heap.size) (by omega) (by omega) 1 (.int .i64 fm)) (b := w.heap.size) (by omega) (by omega) 2 (.int .i64 fr)) (b := w.heap.size) (by omega) (by omega) 3 (.int .i64 fs)) (b := w.heap.size) (by omega) (by omega) 4 (.int .i64 fv))
    have GG := Lib.hid (grown_set (p := ⟨w.heap.size, 4, none⟩) (grown_set (p := ⟨w.heap.size, 3, none⟩) (grown_set (p := ⟨w.heap.size, 2, none⟩) (grown_set (p := ⟨w.heap.size, 1, none⟩) (grown_set (p := ⟨w.heap.size, 0, none⟩) D9.g (.inr (Nat.le_refl _)) (.int .i64 ft)) (.inr (Nat.le_refl _)) (.int .i64 fm)) (.inr (Nat.le_refl _)) (.int .i64 fr)) (.inr (Nat.le_refl _)) (.int .i64 fs)) (.inr (Nat.le_refl _)) (.int .i64 fv))
    clear D9
    go_wp2
    have R := RR.out; have S := SS.out; have G := GG.out
    clear RR SS GG d0 d1 d2 d3 d4 e0 e1 e2 e3 e4 l0 l1 l2 l3 l4
    revert R S G
    generalize World.setCell _ _ _ = WF
    intro R S G
    obtain ⟨e0, e1, e2, e3, e4⟩ := desc_cells R
    exact bodyPost_ret (v := .agg #[.int .i64 ft, .int .i64 fm, .int .i64 fr, .int .i64 fs, .int .i64 fv]) (by simp [results, Try.results110, go_sem, e0, e1, e2, e3, e4]) rfl ⟨_, _, _, _, _, rfl, S, G⟩
end Go.Proofs.Ytecelofoffdjlaa

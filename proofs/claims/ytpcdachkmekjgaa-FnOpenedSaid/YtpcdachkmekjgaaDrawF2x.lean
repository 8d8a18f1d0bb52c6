/- The draw of a frame, valid or not. -/
import Derived.Test.YtpcdachkmekjgaaDrawFx
namespace Go.Proofs.Ytpcdachkmekjgaa
open Go.RowKit
set_option linter.unusedSimpArgs false
set_option linter.unusedVariables false
structure DG (w : World) (B g b : Nat) (k q t m r s v : Int) (A : Option Addr) (c : Nat) (xs : List Int) (W : World) : Prop where
  src : Src W B g
  g : w.grownBy W (some g)
  rr : W.heap[w.heap.size]? = some (.cells #[.int .i64 0, .int .i64 0, .int .i64 0, .int .i64 0, .int .i64 0, .int .i64 0, .int .i64 0, .slice none 0 0] 32 (0, 0))
  rb : W.heap[b]? = some (.cells #[.int .i64 k, .int .i64 q, .int .i64 t, .int .i64 m, .int .i64 r, .int .i64 s, .int .i64 v, .slice A xs.length c] 32 (0, 0))
  own : IOwn W (w.heap.size + 1) (.slice A xs.length c) xs
section
variable {w W : World} {B g b : Nat} {k q t m r s v : Int} {A : Option Addr} {c : Nat} {xs : List Int}
theorem DG.next (h : DG w B g b k q t m r s v A c xs W) (hl : g < w.heap.size) (hb : w.heap.size < b) {W' : World} (S' : Src W' B g) (g' : W.grownBy W' (some g)) : DG w B g b k q t m r s v A c xs W' :=
  ⟨S', grown_trans' h.g g' (.inl rfl), zkeep h.rr g' (by omega), zkeep h.rb g' (by omega), h.own.kept g' (.inr (own_ne' h.own (by omega)))⟩
theorem DG.alloc (h : DG w B g b k q t m r s v A c xs W) (o : Obj) : DG w B g b k q t m r s v A c xs (W.alloc o) :=
  ⟨h.src.alloc o, grown_alloc h.g o, (Below.heap_alloc W o _ (Below.ltK h.rr)).trans h.rr, (Below.heap_alloc W o _ (Below.ltK h.rb)).trans h.rb, h.own.alloc o⟩
theorem DG.set {i : Nat} {u : Value} {k' q' t' m' r' s' v' : Int} (h : DG w B g b k q t m r s v A c xs W) (hl : g < w.heap.size) (hb : w.heap.size < b) (hB : B ≤ g)
    (hr : (W.setCell ⟨b, i, none⟩ u).heap[b]? = some (.cells #[.int .i64 k', .int .i64 q', .int .i64 t', .int .i64 m', .int .i64 r', .int .i64 s', .int .i64 v', .slice A xs.length c] 32 (0, 0))) : DG w B g b k' q' t' m' r' s' v' A c xs (W.setCell ⟨b, i, none⟩ u) :=
  ⟨src_set h.src (by omega) (by omega) i u, grown_set (p := ⟨b, i, none⟩) h.g (.inr (Nat.le_of_lt hb)) u, (heap_setCell_other _ _ _ _ (by show w.heap.size ≠ b; omega)).trans h.rr, hr, h.own.setO (own_ne_frame h.own h.rb) u⟩
/-- Other data take the place of the old ones. -/
theorem DG.data {A' : Option Addr} {c' : Nat} {ys : List Int} (h : DG w B g b k q t m r s v A c xs W) (ho : IOwn W (w.heap.size + 1) (.slice A' ys.length c') ys) (hl : g < w.heap.size) (hb : w.heap.size < b) (hB : B ≤ g) : DG w B g b k q t m r s v A' c' ys (W.setCell ⟨b, 7, none⟩ (.slice A' ys.length c')) :=
  ⟨src_set h.src (by omega) (by omega) 7 _, grown_set (p := ⟨b, 7, none⟩) h.g (.inr (Nat.le_of_lt hb)) _, (heap_setCell_other _ _ _ _ (by show w.heap.size ≠ b; omega)).trans h.rr, set8_7 h.rb, ho.setO (own_ne_frame ho h.rb) _⟩
end
theorem getRq (q : Nat) (h : (q : Int) < 3) : ∃ v : Int, (#[Value.int .i64 (-1), Value.int .i64 1, Value.int .i64 8] : Array Value)[q]? = some (.int .i64 v) := by
  have h' : q < 3 := by omega
  match q, h' with
  | 0, _ => exact ⟨-1, rfl⟩
  | 1, _ => exact ⟨1, rfl⟩
  | 2, _ => exact ⟨8, rfl⟩
set_option maxHeartbeats 4000000 in
theorem s_l06DrawAny (g B : Nat) (w : World) (h : Src w B g) :
    Calls Try.prog 74 #[.pointer (some ⟨g, 0, none⟩)] w (DrewF B g w) := by
  have hl := h.lt
  have hBg := h.1
  go_enter Try.func74, Try.ntmps74
  go_wp2_with fail
  have S0 := h.alloc (.cells #[.int .i64 0, .int .i64 0, .int .i64 0, .int .i64 0, .int .i64 0, .int .i64 0, .int .i64 0, .slice none 0 0] 32)
  have G0 : w.grownBy (w.alloc (.cells #[.int .i64 0, .int .i64 0, .int .i64 0, .int .i64 0, .int .i64 0, .int .i64 0, .int .i64 0, .slice none 0 0] 32)) (some g) := grown_alloc (World.grownBy.refl _ _) _
  have R0 := heap_alloc_new w (.cells #[.int .i64 0, .int .i64 0, .int .i64 0, .int .i64 0, .int .i64 0, .int .i64 0, .int .i64 0, .slice none 0 0] 32)
  clear h
  refine (s_l06Draw g B _ S0).mono ?_
  rintro e w1 ⟨k, q, t, m, r, s, v, vs, xs, rfl, hx, o1, S1, g1⟩
  obtain ⟨A1, c1, rfl, -, -, -⟩ := o1.form
  have G1 := grown_trans' G0 g1 (.inl rfl)
  have R1 := zkeep R0 g1 (by omega)
  have z3 := Below.ltK R1
  rw [show (w.alloc (.cells #[.int .i64 0, .int .i64 0, .int .i64 0, .int .i64 0, .int .i64 0, .int .i64 0, .int .i64 0, .slice none 0 0] 32)).heap.size = w.heap.size + 1 by simp] at o1
  clear S0 G0 R0 g1
  go_wp2_with fail
  have D0 : DG w B g w1.heap.size k q t m r s v A1 c1 xs (w1.alloc (.cells #[.int .i64 k, .int .i64 q, .int .i64 t, .int .i64 m, .int .i64 r, .int .i64 s, .int .i64 v, .slice A1 xs.length c1] 32)) := ⟨S1.alloc _, grown_alloc G1 _, (Below.heap_alloc w1 _ _ z3).trans R1, heap_alloc_new w1 _, o1.alloc _⟩
  clear S1 G1 R1 o1
  generalize w1.alloc _ = W at D0 ⊢
  generalize w1.heap.size = b at D0 z3 ⊢
  refine (s_l01Next g B 30 _ D0.src).mono ?_
  rintro e w2 ⟨x, rfl, _, _, S2, g2⟩
  have D2 := D0.next hl z3 S2 g2
  clear D0 S2 g2
  obtain ⟨d0, d1, d2, d3, d4, d5, d6, d7⟩ := fr_cells D2.rb
  cases h0 : (x == 0)
  · cases h1 : (x == 1)
    · cases h2 : (x == 2)
      · cases h3 : (x == 3)
        · cases h4 : (x == 4)
          · go_upto_region 13 with fail
            clear d0 d1 d2 d3 d4 d5 d6 d7
            have hD8 : ∃ k q t m r s v A c xs, List.length xs ≤ 10000 ∧ DG w B g b k q t m r s v A c xs w2 := ⟨_, _, _, _, _, _, _, _, _, _, hx, D2⟩
            clear D2
            obtain ⟨k, q, t, m, r, s, v, A, c, xs, hx, hD9⟩ := hD8
            obtain ⟨d0, d1, d2, d3, d4, d5, d6, d7⟩ := fr_cells hD9.rb
            obtain ⟨e0, e1, e2, e3, e4, e5, e6, e7⟩ := fr_cells hD9.rr
            have l0 := frozen_of_row _ _ 0 _ _ hD9.rr
            have l1 := frozen_of_row _ _ 1 _ _ hD9.rr
            have l2 := frozen_of_row _ _ 2 _ _ hD9.rr
            have l3 := frozen_of_row _ _ 3 _ _ hD9.rr
            have l4 := frozen_of_row _ _ 4 _ _ hD9.rr
            have l5 := frozen_of_row _ _ 5 _ _ hD9.rr
            have l6 := frozen_of_row _ _ 6 _ _ hD9.rr
            have l7 := frozen_of_row _ _ 7 _ _ hD9.rr
            have RR := Lib.hid (eight_heap (v0 := .int .i64 k) (v1 := .int .i64 q) (v2 := .int .i64 t) (v3 := .int .i64 m) (v4 := .int .i64 r) (v5 := .int .i64 s) (v6 := .int .i64 v) (v7 := .slice A xs.length c) hD9.rr)
            have SS := Lib.hid (src_set (src_set (src_set (src_set (src_set (src_set (src_set (src_set hD9.src (b := w.heap.size) (by omega) (by omega) 0 (.int .i64 k)) (b := w.heap.size) (by omega) (by omega) 1 (.int .i64 q)) (b := w.heap.size) (by omega) (by omega) 2 (.int .i64 t)) (b := w.heap.size) (by omega) (by omega) 3 (.int .i64 m)) (b := w.heap.size) (by omega) (by omega) 4 (.int .i64 r)) (b := w.heap.size) (by omega) (by omega) 5 (.int .i64 s)) (b := w.heap.size) (by omega) (by omega) 6 (.int .i64 v)) (b := w.heap.size) (by omega) (by omega) 7 (.slice A xs.length c))
            have GG := Lib.hid (grown_set (p := ⟨w.heap.size, 7, none⟩) (grown_set (p := ⟨w.heap.size, 6, none⟩) (grown_set (p := ⟨w.heap.size, 5, none⟩) (grown_set (p := ⟨w.heap.size, 4, none⟩) (grown_set (p := ⟨w.heap.size, 3, none⟩) (grown_set (p := ⟨w.heap.size, 2, none⟩) (grown_set (p := ⟨w.heap.size, 1, none⟩) (grown_set (p := ⟨w.heap.size, 0, none⟩) hD9.g (.inr (Nat.le_refl _)) (.int .i64 k)) (.inr (Nat.le_refl _)) (.int .i64 q)) (.inr (Nat.le_refl _)) (.int .i64 t)) (.inr (Nat.le_refl _)) (.int .i64 m)) (.inr (Nat.le_refl _)) (.int .i64 r)) (.inr (Nat.le_refl _)) (.int .i64 s)) (.inr (Nat.le_refl _)) (.int .i64 v)) (.inr (Nat.le_refl _)) (.slice A xs.length c))
            have OO := Lib.hid (hD9.own.eight (g := w.heap.size) (by omega) (.int .i64 k) (.int .i64 q) (.int .i64 t) (.int .i64 m) (.int .i64 r) (.int .i64 s) (.int .i64 v) (.slice A xs.length c))
            clear hD9
            go_wp2
            have R := RR.out; have S := SS.out; have G := GG.out; have O := OO.out
            clear RR SS GG OO d0 d1 d2 d3 d4 d5 d6 d7 e0 e1 e2 e3 e4 e5 e6 e7 l0 l1 l2 l3 l4 l5 l6 l7
            revert R S G O
            generalize World.setCell _ _ _ = WF
            intro R S G O
            obtain ⟨e0, e1, e2, e3, e4, e5, e6, e7⟩ := fr_cells R
            exact bodyPost_ret (v := .agg #[.int .i64 k, .int .i64 q, .int .i64 t, .int .i64 m, .int .i64 r, .int .i64 s, .int .i64 v, .slice A xs.length c]) (by simp [results, Try.results74, go_sem, e0, e1, e2, e3, e4, e5, e6, e7]) rfl ⟨_, _, _, _, _, _, _, _, _, rfl, hx, O.less (by omega), S, G⟩
          · go_wp2_with fail
            refine (s_l01Next g B 2 _ D2.src).mono ?_
            rintro e w5 ⟨r5, rfl, r50, r51, S5, g5⟩
            have D5 := D2.next hl z3 S5 g5
            obtain ⟨p, hp, hpe⟩ : ∃ p : Nat, p ≤ 40 ∧ 32 + r5 = (p : Int) := ⟨(32 + r5).toNat, by omega, by omega⟩
            have hmk := make_run p (by omega)
            have zz := Below.ltK D5.rb
            have DM := D5.alloc (.cells ((List.replicate p 0).map (Value.int .i64)).toArray 2)
            have om : IOwn (w5.alloc (.cells ((List.replicate p 0).map (Value.int .i64)).toArray 2)) (w.heap.size + 1) (.slice (some ⟨w5.heap.size, 0, none⟩) (List.replicate p (0 : Int)).length p) (List.replicate p (0 : Int)) := by
              rw [List.length_replicate]; exact own_of_row p (by omega) (by omega) (heap_alloc_new w5 _)
            obtain ⟨O, hO⟩ : ∃ O, O = Obj.cells ((List.replicate p 0).map (Value.int .i64)).toArray 2 := ⟨_, rfl⟩
            rw [← hO] at hmk DM om
            clear hO
            clear D2 D5 S5 g5 r51 d0 d1 d2 d3 d4 d5 d6 d7
            obtain ⟨d0, d1, d2, d3, d4, d5, d6, d7⟩ := fr_cells DM.rb
            have kk := frozen_of_row _ _ 7 _ _ DM.rb
            have hE0 := DM.data (ys := List.replicate p (0 : Int)) om hl z3 hBg
            have hlen : (List.replicate p (0 : Int)).length = p := List.length_replicate
            have hcm : (w5.alloc O).setCell ⟨b, 7, none⟩ (.slice (some ⟨w5.heap.size, 0, none⟩) p p) = (w5.setCell ⟨b, 7, none⟩ (.slice (some ⟨w5.heap.size, 0, none⟩) p p)).alloc O := by simp [go_sem, zz]
            obtain ⟨ys, hys, hE1⟩ : ∃ ys : List Int, ys.length = p ∧ DG w B g b k q t m r s v (some ⟨w5.heap.size, 0, none⟩) p ys ((w5.setCell ⟨b, 7, none⟩ (.slice (some ⟨w5.heap.size, 0, none⟩) p p)).alloc O) := ⟨List.replicate p 0, hlen, by rw [← hcm]; rw [hlen] at hE0; exact hE0⟩
            clear hE0
            have hE0 := hE1
            clear hE1
            have hE := Lib.hid hE0
            clear hE0 DM om hcm
            go_upto_region 13 with (rw [hpe])
            have hE' := hE.out
            clear hE d0 d1 d2 d3 d4 d5 d6 d7 kk hmk
            generalize World.alloc _ _ = W7 at hE' ⊢
            generalize w5.heap.size = ob at hE' ⊢
            have hy2 : ys.length ≤ 10000 := (by omega)
            have hD8 : ∃ k q t m r s v A c xs, List.length xs ≤ 10000 ∧ DG w B g b k q t m r s v A c xs W7 := ⟨_, _, _, _, _, _, _, _, _, _, hy2, hE'⟩
            clear hE'
            obtain ⟨k, q, t, m, r, s, v, A, c, xs, hx, hD9⟩ := hD8
            obtain ⟨d0, d1, d2, d3, d4, d5, d6, d7⟩ := fr_cells hD9.rb
            obtain ⟨e0, e1, e2, e3, e4, e5, e6, e7⟩ := fr_cells hD9.rr
            have l0 := frozen_of_row _ _ 0 _ _ hD9.rr
            have l1 := frozen_of_row _ _ 1 _ _ hD9.rr
            have l2 := frozen_of_row _ _ 2 _ _ hD9.rr
            have l3 := frozen_of_row _ _ 3 _ _ hD9.rr
            have l4 := frozen_of_row _ _ 4 _ _ hD9.rr
            have l5 := frozen_of_row _ _ 5 _ _ hD9.rr
            have l6 := frozen_of_row _ _ 6 _ _ hD9.rr
            have l7 := frozen_of_row _ _ 7 _ _ hD9.rr
            have RR := Lib.hid (eight_heap (v0 := .int .i64 k) (v1 := .int .i64 q) (v2 := .int .i64 t) (v3 := .int .i64 m) (v4 := .int .i64 r) (v5 := .int .i64 s) (v6 := .int .i64 v) (v7 := .slice A xs.length c) hD9.rr)
            have SS := Lib.hid (src_set (src_set (src_set (src_set (src_set (src_set (src_set (src_set hD9.src (b := w.heap.size) (by omega) (by omega) 0 (.int .i64 k)) (b := w.heap.size) (by omega) (by omega) 1 (.int .i64 q)) (b := w.heap.size) (by omega) (by omega) 2 (.int .i64 t)) (b := w.heap.size) (by omega) (by omega) 3 (.int .i64 m)) (b := w.heap.size) (by omega) (by omega) 4 (.int .i64 r)) (b := w.heap.size) (by omega) (by omega) 5 (.int .i64 s)) (b := w.heap.size) (by omega) (by omega) 6 (.int .i64 v)) (b := w.heap.size) (by omega) (by omega) 7 (.slice A xs.length c))
            have GG := Lib.hid (grown_set (p := ⟨w.heap.size, 7, none⟩) (grown_set (p := ⟨w.heap.size, 6, none⟩) (grown_set (p := ⟨w.heap.size, 5, none⟩) (grown_set (p := ⟨w.heap.size, 4, none⟩) (grown_set (p := ⟨w.heap.size, 3, none⟩) (grown_set (p := ⟨w.heap.size, 2, none⟩) (grown_set (p := ⟨w.heap.size, 1, none⟩) (grown_set (p := ⟨w.heap.size, 0, none⟩) hD9.g (.inr (Nat.le_refl _)) (.int .i64 k)) (.inr (Nat.le_refl _)) (.int .i64 q)) (.inr (Nat.le_refl _)) (.int .i64 t)) (.inr (Nat.le_refl _)) (.int .i64 m)) (.inr (Nat.le_refl _)) (.int .i64 r)) (.inr (Nat.le_refl _)) (.int .i64 s)) (.inr (Nat.le_refl _)) (.int .i64 v)) (.inr (Nat.le_refl _)) (.slice A xs.length c))
            have OO := Lib.hid (hD9.own.eight (g := w.heap.size) (by omega) (.int .i64 k) (.int .i64 q) (.int .i64 t) (.int .i64 m) (.int .i64 r) (.int .i64 s) (.int .i64 v) (.slice A xs.length c))
            clear hD9
            go_wp2
            have R := RR.out; have S := SS.out; have G := GG.out; have O := OO.out
            clear RR SS GG OO d0 d1 d2 d3 d4 d5 d6 d7 e0 e1 e2 e3 e4 e5 e6 e7 l0 l1 l2 l3 l4 l5 l6 l7
            revert R S G O
            generalize World.setCell _ _ _ = WF
            intro R S G O
            obtain ⟨e0, e1, e2, e3, e4, e5, e6, e7⟩ := fr_cells R
            exact bodyPost_ret (v := .agg #[.int .i64 k, .int .i64 q, .int .i64 t, .int .i64 m, .int .i64 r, .int .i64 s, .int .i64 v, .slice A xs.length c]) (by simp [results, Try.results74, go_sem, e0, e1, e2, e3, e4, e5, e6, e7]) rfl ⟨_, _, _, _, _, _, _, _, _, rfl, hx, O.less (by omega), S, G⟩
        · go_wp2_with fail
          refine (s_l01DrawBytes g B 3 _ D2.src (by omega) (by omega)).mono ?_
          rintro e w5 ⟨v5, ys, rfl, hy, o5, S5, g5⟩
          have D5 := D2.next hl z3 S5 g5
          obtain ⟨A5, c5, rfl, -, -, -⟩ := o5.form
          have zz := Below.ltK D2.rb
          have o5' : IOwn w5 (w.heap.size + 1) (.slice A5 ys.length c5) ys := o5.less (by omega)
          clear D2 S5 g5 o5 d0 d1 d2 d3 d4 d5 d6 d7
          obtain ⟨d0, d1, d2, d3, d4, d5, d6, d7⟩ := fr_cells D5.rb
          have kk := frozen_of_row _ _ 7 _ _ D5.rb
          have hE := Lib.hid (D5.data o5' hl z3 hBg)
          clear D5 o5'
          go_upto_region 13 with fail
          have hE' := hE.out
          clear hE d0 d1 d2 d3 d4 d5 d6 d7 kk
          generalize World.setCell _ _ _ = W7 at hE' ⊢
          have hD8 : ∃ k q t m r s v A c xs, List.length xs ≤ 10000 ∧ DG w B g b k q t m r s v A c xs W7 := ⟨_, _, _, _, _, _, _, _, _, _, hy, hE'⟩
          clear hE'
          obtain ⟨k, q, t, m, r, s, v, A, c, xs, hx, hD9⟩ := hD8
          obtain ⟨d0, d1, d2, d3, d4, d5, d6, d7⟩ := fr_cells hD9.rb
          obtain ⟨e0, e1, e2, e3, e4, e5, e6, e7⟩ := fr_cells hD9.rr
          have l0 := frozen_of_row _ _ 0 _ _ hD9.rr
          have l1 := frozen_of_row _ _ 1 _ _ hD9.rr
          have l2 := frozen_of_row _ _ 2 _ _ hD9.rr
          have l3 := frozen_of_row _ _ 3 _ _ hD9.rr
          have l4 := frozen_of_row _ _ 4 _ _ hD9.rr
          have l5 := frozen_of_row _ _ 5 _ _ hD9.rr
          have l6 := frozen_of_row _ _ 6 _ _ hD9.rr
          have l7 := frozen_of_row _ _ 7 _ _ hD9.rr
          have RR := Lib.hid (eight_heap (v0 := .int .i64 k) (v1 := .int .i64 q) (v2 := .int .i64 t) (v3 := .int .i64 m) (v4 := .int .i64 r) (v5 := .int .i64 s) (v6 := .int .i64 v) (v7 := .slice A xs.length c) hD9.rr)
          have SS := Lib.hid (src_set (src_set (src_set (src_set (src_set (src_set (src_set (src_set hD9.src (b := w.heap.size) (by omega) (by omega) 0 (.int .i64 k)) (b := w.heap.size) (by omega) (by omega) 1 (.int .i64 q)) (b := w.heap.size) (by omega) (by omega) 2 (.int .i64 t)) (b := w.heap.size) (by omega) (by omega) 3 (.int .i64 m)) (b := w.heap.size) (by omega) (by omega) 4 (.int .i64 r)) (b := w.heap.size) (by omega) (by omega) 5 (.int .i64 s)) (b := w.heap.size) (by omega) (by omega) 6 (.int .i64 v)) (b := w.heap.size) (by omega) (by omega) 7 (.slice A xs.length c))
          have GG := Lib.hid (grown_set (p := ⟨w.heap.size, 7, none⟩) (grown_set (p := ⟨w.heap.size, 6, none⟩) (grown_set (p := ⟨w.heap.size, 5, none⟩) (grown_set (p := ⟨w.heap.size, 4, none⟩) (grown_set (p := ⟨w.heap.size, 3, none⟩) (grown_set (p := ⟨w.heap.size, 2, none⟩) (grown_set (p := ⟨w.heap.size, 1, none⟩) (grown_set (p := ⟨w.heap.size, 0, none⟩) hD9.g (.inr (Nat.le_refl _)) (.int .i64 k)) (.inr (Nat.le_refl _)) (.int .i64 q)) (.inr (Nat.le_refl _)) (.int .i64 t)) (.inr (Nat.le_refl _)) (.int .i64 m)) (.inr (Nat.le_refl _)) (.int .i64 r)) (.inr (Nat.le_refl _)) (.int .i64 s)) (.inr (Nat.le_refl _)) (.int .i64 v)) (.inr (Nat.le_refl _)) (.slice A xs.length c))
          have OO := Lib.hid (hD9.own.eight (g := w.heap.size) (by omega) (.int .i64 k) (.int .i64 q) (.int .i64 t) (.int .i64 m) (.int .i64 r) (.int .i64 s) (.int .i64 v) (.slice A xs.length c))
          clear hD9
          go_wp2
          have R := RR.out; have S := SS.out; have G := GG.out; have O := OO.out
          clear RR SS GG OO d0 d1 d2 d3 d4 d5 d6 d7 e0 e1 e2 e3 e4 e5 e6 e7 l0 l1 l2 l3 l4 l5 l6 l7
          revert R S G O
          generalize World.setCell _ _ _ = WF
          intro R S G O
          obtain ⟨e0, e1, e2, e3, e4, e5, e6, e7⟩ := fr_cells R
          exact bodyPost_ret (v := .agg #[.int .i64 k, .int .i64 q, .int .i64 t, .int .i64 m, .int .i64 r, .int .i64 s, .int .i64 v, .slice A xs.length c]) (by simp [results, Try.results74, go_sem, e0, e1, e2, e3, e4, e5, e6, e7]) rfl ⟨_, _, _, _, _, _, _, _, _, rfl, hx, O.less (by omega), S, G⟩
      · go_wp2_with fail
        refine (s_l04DrawAny g B _ D2.src).mono ?_
        rintro e w5 ⟨t5, m5, r5, s5, v5, rfl, S5, g5⟩
        have D5 := D2.next hl z3 S5 g5
        clear D2 S5 g5 d0 d1 d2 d3 d4 d5 d6 d7
        obtain ⟨d0, d1, d2, d3, d4, d5, d6, d7⟩ := fr_cells D5.rb
        have l2 := frozen_of_row _ _ 2 _ _ D5.rb
        have l3 := frozen_of_row _ _ 3 _ _ D5.rb
        have l4 := frozen_of_row _ _ 4 _ _ D5.rb
        have l5 := frozen_of_row _ _ 5 _ _ D5.rb
        have l6 := frozen_of_row _ _ 6 _ _ D5.rb
        have hne := own_ne_frame D5.own D5.rb
        have hE0 : DG w B g b k q t5 m5 r5 s5 v5 A1 c1 xs _ := ⟨(src_set (src_set (src_set (src_set (src_set D5.src (b := b) (by omega) (by omega) 2 (.int .i64 t5)) (b := b) (by omega) (by omega) 3 (.int .i64 m5)) (b := b) (by omega) (by omega) 4 (.int .i64 r5)) (b := b) (by omega) (by omega) 5 (.int .i64 s5)) (b := b) (by omega) (by omega) 6 (.int .i64 v5)), (grown_set (p := ⟨b, 6, none⟩) (grown_set (p := ⟨b, 5, none⟩) (grown_set (p := ⟨b, 4, none⟩) (grown_set (p := ⟨b, 3, none⟩) (grown_set (p := ⟨b, 2, none⟩) D5.g (.inr (Nat.le_of_lt z3)) (.int .i64 t5)) (.inr (Nat.le_of_lt z3)) (.int .i64 m5)) (.inr (Nat.le_of_lt z3)) (.int .i64 r5)) (.inr (Nat.le_of_lt z3)) (.int .i64 s5)) (.inr (Nat.le_of_lt z3)) (.int .i64 v5)), (five_other8 (by omega)).trans D5.rr, five_heap8 (v2 := .int .i64 t5) (v3 := .int .i64 m5) (v4 := .int .i64 r5) (v5 := .int .i64 s5) (v6 := .int .i64 v5) D5.rb, (IOwn.setO (IOwn.setO (IOwn.setO (IOwn.setO (IOwn.setO D5.own (g := b) (k := 2) hne (.int .i64 t5)) (g := b) (k := 3) hne (.int .i64 m5)) (g := b) (k := 4) hne (.int .i64 r5)) (g := b) (k := 5) hne (.int .i64 s5)) (g := b) (k := 6) hne (.int .i64 v5))⟩
        have hE := Lib.hid hE0
        clear hE0 hne D5
        go_upto_region 13 with fail
        have hE' := hE.out
        clear hE d0 d1 d2 d3 d4 d5 d6 d7 l2 l3 l4 l5 l6
        generalize World.setCell _ _ _ = W7 at hE' ⊢
        have hD8 : ∃ k q t m r s v A c xs, List.length xs ≤ 10000 ∧ DG w B g b k q t m r s v A c xs W7 := ⟨_, _, _, _, _, _, _, _, _, _, hx, hE'⟩
        clear hE'
        obtain ⟨k, q, t, m, r, s, v, A, c, xs, hx, hD9⟩ := hD8
        obtain ⟨d0, d1, d2, d3, d4, d5, d6, d7⟩ := fr_cells hD9.rb
        obtain ⟨e0, e1, e2, e3, e4, e5, e6, e7⟩ := fr_cells hD9.rr
        have l0 := frozen_of_row _ _ 0 _ _ hD9.rr
        have l1 := frozen_of_row _ _ 1 _ _ hD9.rr
        have l2 := frozen_of_row _ _ 2 _ _ hD9.rr
        have l3 := frozen_of_row _ _ 3 _ _ hD9.rr
        have l4 := frozen_of_row _ _ 4 _ _ hD9.rr
        have l5 := frozen_of_row _ _ 5 _ _ hD9.rr
        have l6 := frozen_of_row _ _ 6 _ _ hD9.rr
        have l7 := frozen_of_row _ _ 7 _ _ hD9.rr
        have RR := Lib.hid (eight_heap (v0 := .int .i64 k) (v1 := .int .i64 q) (v2 := .int .i64 t) (v3 := .int .i64 m) (v4 := .int .i64 r) (v5 := .int .i64 s) (v6 := .int .i64 v) (v7 := .slice A xs.length c) hD9.rr)
        have SS := Lib.hid (src_set (src_set (src_set (src_set (src_set (src_set (src_set (src_set hD9.src (b := w.heap.size) (by omega) (by omega) 0 (.int .i64 k)) (b := w.heap.size) (by omega) (by omega) 1 (.int .i64 q)) (b := w.heap.size) (by omega) (by omega) 2 (.int .i64 t)) (b := w.heap.size) (by omega) (by omega) 3 (.int .i64 m)) (b := w.heap.size) (by omega) (by omega) 4 (.int .i64 r)) (b := w.heap.size) (by omega) (by omega) 5 (.int .i64 s)) (b := w.heap.size) (by omega) (by omega) 6 (.int .i64 v)) (b := w.heap.size) (by omega) (by omega) 7 (.slice A xs.length c))
        have GG := Lib.hid (grown_set (p := ⟨w.heap.size, 7, none⟩) (grown_set (p := ⟨w.heap.size, 6, none⟩) (grown_set (p := ⟨w.heap.size, 5, none⟩) (grown_set (p := ⟨w.heap.size, 4, none⟩) (grown_set (p := ⟨w.heap.size, 3, none⟩) (grown_set (p := ⟨w.heap.size, 2, none⟩) (grown_set (p := ⟨w.heap.size, 1, none⟩) (grown_set (p := ⟨w.heap.size, 0, none⟩) hD9.g (.inr (Nat.le_refl _)) (.int .i64 k)) (.inr (Nat.le_refl _)) (.int .i64 q)) (.inr (Nat.le_refl _)) (.int .i64 t)) (.inr (Nat.le_refl _)) (.int .i64 m)) (.inr (Nat.le_refl _)) (.int .i64 r)) (.inr (Nat.le_refl _)) (.int .i64 s)) (.inr (Nat.le_refl _)) (.int .i64 v)) (.inr (Nat.le_refl _)) (.slice A xs.length c))
        have OO := Lib.hid (hD9.own.eight (g := w.heap.size) (by omega) (.int .i64 k) (.int .i64 q) (.int .i64 t) (.int .i64 m) (.int .i64 r) (.int .i64 s) (.int .i64 v) (.slice A xs.length c))
        clear hD9
        go_wp2
        have R := RR.out; have S := SS.out; have G := GG.out; have O := OO.out
        clear RR SS GG OO d0 d1 d2 d3 d4 d5 d6 d7 e0 e1 e2 e3 e4 e5 e6 e7 l0 l1 l2 l3 l4 l5 l6 l7
        revert R S G O
        generalize World.setCell _ _ _ = WF
        intro R S G O
        obtain ⟨e0, e1, e2, e3, e4, e5, e6, e7⟩ := fr_cells R
        exact bodyPost_ret (v := .agg #[.int .i64 k, .int .i64 q, .int .i64 t, .int .i64 m, .int .i64 r, .int .i64 s, .int .i64 v, .slice A xs.length c]) (by simp [results, Try.results74, go_sem, e0, e1, e2, e3, e4, e5, e6, e7]) rfl ⟨_, _, _, _, _, _, _, _, _, rfl, hx, O.less (by omega), S, G⟩
    · go_wp2_with fail
      have DA := D2.alloc (.cells #[.int .i64 (-1), .int .i64 1, .int .i64 8] 2)
      refine (s_l01Next g B 3 _ DA.src).mono ?_
      rintro e w5 ⟨r5, rfl, r50, r51, S5, g5⟩
      have D5 := DA.next hl z3 S5 g5
      have hZ := zkeep (heap_alloc_new w2 (.cells #[.int .i64 (-1), .int .i64 1, .int .i64 8] 2)) g5 (by have := D2.src.lt; omega)
      obtain ⟨q5, rfl⟩ := nat_of' r5 r50
      have q50 : (0 : Int) ≤ (q5 : Int) := r50
      have q51 : (q5 : Int) < 3 := (by omega)
      obtain ⟨v5, hv5⟩ := getRq q5 q51
      have hc5 := row_get hZ hv5
      clear DA S5 g5 hZ hv5 r51 d0 d1 d2 d3 d4 d5 d6 d7 D2
      obtain ⟨d0, d1, d2, d3, d4, d5, d6, d7⟩ := fr_cells D5.rb
      have kk := frozen_of_row _ _ 1 _ _ D5.rb
      have hE := Lib.hid (D5.set (i := 1) (u := .int .i64 v5) hl z3 hBg (set8_1 D5.rb))
      clear D5
      go_upto_region 13 with fail
      have hE' := hE.out
      clear hE d0 d1 d2 d3 d4 d5 d6 d7 kk hc5
      generalize World.setCell _ _ _ = W7 at hE' ⊢
      have hD8 : ∃ k q t m r s v A c xs, List.length xs ≤ 10000 ∧ DG w B g b k q t m r s v A c xs W7 := ⟨_, _, _, _, _, _, _, _, _, _, hx, hE'⟩
      clear hE'
      obtain ⟨k, q, t, m, r, s, v, A, c, xs, hx, hD9⟩ := hD8
      obtain ⟨d0, d1, d2, d3, d4, d5, d6, d7⟩ := fr_cells hD9.rb
      obtain ⟨e0, e1, e2, e3, e4, e5, e6, e7⟩ := fr_cells hD9.rr
      have l0 := frozen_of_row _ _ 0 _ _ hD9.rr
      have l1 := frozen_of_row _ _ 1 _ _ hD9.rr
      have l2 := frozen_of_row _ _ 2 _ _ hD9.rr
      have l3 := frozen_of_row _ _ 3 _ _ hD9.rr
      have l4 := frozen_of_row _ _ 4 _ _ hD9.rr
      have l5 := frozen_of_row _ _ 5 _ _ hD9.rr
      have l6 := frozen_of_row _ _ 6 _ _ hD9.rr
      have l7 := frozen_of_row _ _ 7 _ _ hD9.rr
      have RR := Lib.hid (eight_heap (v0 := .int .i64 k) (v1 := .int .i64 q) (v2 := .int .i64 t) (v3 := .int .i64 m) (v4 := .int .i64 r) (v5 := .int .i64 s) (v6 := .int .i64 v) (v7 := .slice A xs.length c) hD9.rr)
      have SS := Lib.hid (src_set (src_set (src_set (src_set (src_set (src_set (src_set (src_set hD9.src (b := w.heap.size) (by omega) (by omega) 0 (.int .i64 k)) (b := w.heap.size) (by omega) (by omega) 1 (.int .i64 q)) (b := w.heap.size) (by omega) (by omega) 2 (.int .i64 t)) (b := w.heap.size) (by omega) (by omega) 3 (.int .i64 m)) (b := w.heap.size) (by omega) (by omega) 4 (.int .i64 r)) (b := w.heap.size) (by omega) (by omega) 5 (.int .i64 s)) (b := w.heap.size) (by omega) (by omega) 6 (.int .i64 v)) (b := w.heap.size) (by omega) (by omega) 7 (.slice A xs.length c))
      have GG := Lib.hid (grown_set (p := ⟨w.heap.size, 7, none⟩) (grown_set (p := ⟨w.heap.size, 6, none⟩) (grown_set (p := ⟨w.heap.size, 5, none⟩) (grown_set (p := ⟨w.heap.size, 4, none⟩) (grown_set (p := ⟨w.heap.size, 3, none⟩) (grown_set (p := ⟨w.heap.size, 2, none⟩) (grown_set (p := ⟨w.heap.size, 1, none⟩) (grown_set (p := ⟨w.heap.size, 0, none⟩) hD9.g (.inr (Nat.le_refl _)) (.int .i64 k)) (.inr (Nat.le_refl _)) (.int .i64 q)) (.inr (Nat.le_refl _)) (.int .i64 t)) (.inr (Nat.le_refl _)) (.int .i64 m)) (.inr (Nat.le_refl _)) (.int .i64 r)) (.inr (Nat.le_refl _)) (.int .i64 s)) (.inr (Nat.le_refl _)) (.int .i64 v)) (.inr (Nat.le_refl _)) (.slice A xs.length c))
      have OO := Lib.hid (hD9.own.eight (g := w.heap.size) (by omega) (.int .i64 k) (.int .i64 q) (.int .i64 t) (.int .i64 m) (.int .i64 r) (.int .i64 s) (.int .i64 v) (.slice A xs.length c))
      clear hD9
      go_wp2
      have R := RR.out; have S := SS.out; have G := GG.out; have O := OO.out
      clear RR SS GG OO d0 d1 d2 d3 d4 d5 d6 d7 e0 e1 e2 e3 e4 e5 e6 e7 l0 l1 l2 l3 l4 l5 l6 l7
      revert R S G O
      generalize World.setCell _ _ _ = WF
      intro R S G O
      obtain ⟨e0, e1, e2, e3, e4, e5, e6, e7⟩ := fr_cells R
      exact bodyPost_ret (v := .agg #[.int .i64 k, .int .i64 q, .int .i64 t, .int .i64 m, .int .i64 r, .int .i64 s, .int .i64 v, .slice A xs.length c]) (by simp [results, Try.results74, go_sem, e0, e1, e2, e3, e4, e5, e6, e7]) rfl ⟨_, _, _, _, _, _, _, _, _, rfl, hx, O.less (by omega), S, G⟩
  · go_wp2_with fail
    refine (s_l01Next g B 6 _ D2.src).mono ?_
    rintro e w5 ⟨r5, rfl, r50, r51, S5, g5⟩
    have D5 := D2.next hl z3 S5 g5
    have hr5 : r5 ≤ 5 := (by omega)
    clear D2 S5 g5 r51 d0 d1 d2 d3 d4 d5 d6 d7
    obtain ⟨d0, d1, d2, d3, d4, d5, d6, d7⟩ := fr_cells D5.rb
    have kk := frozen_of_row _ _ 0 _ _ D5.rb
    have hE := Lib.hid (D5.set (i := 0) (u := .int .i64 (r5 - 1)) hl z3 hBg (set8_0 D5.rb))
    clear D5
    go_upto_region 13 with fail
    have hE' := hE.out
    clear hE d0 d1 d2 d3 d4 d5 d6 d7 kk
    generalize World.setCell _ _ _ = W7 at hE' ⊢
    have hD8 : ∃ k q t m r s v A c xs, List.length xs ≤ 10000 ∧ DG w B g b k q t m r s v A c xs W7 := ⟨_, _, _, _, _, _, _, _, _, _, hx, hE'⟩
    clear hE'
    obtain ⟨k, q, t, m, r, s, v, A, c, xs, hx, hD9⟩ := hD8
    obtain ⟨d0, d1, d2, d3, d4, d5, d6, d7⟩ := fr_cells hD9.rb
    obtain ⟨e0, e1, e2, e3, e4, e5, e6, e7⟩ := fr_cells hD9.rr
    have l0 := frozen_of_row _ _ 0 _ _ hD9.rr
    have l1 := frozen_of_row _ _ 1 _ _ hD9.rr
    have l2 := frozen_of_row _ _ 2 _ _ hD9.rr
    have l3 := frozen_of_row _ _ 3 _ _ hD9.rr
    have l4 := frozen_of_row _ _ 4 _ _ hD9.rr
    have l5 := frozen_of_row _ _ 5 _ _ hD9.rr
    have l6 := frozen_of_row _ _ 6 _ _ hD9.rr
    have l7 := frozen_of_row _ _ 7 _ _ hD9.rr
    have RR := Lib.hid (eight_heap (v0 := .int .i64 k) (v1 := .int .i64 q) (v2 := .int .i64 t) (v3 := .int .i64 m) (v4 := .int .i64 r) (v5 := .int .i64 s) (v6 := .int .i64 v) (v7 := .slice A xs.length c) hD9.rr)
    have SS := Lib.hid (src_set (src_set (src_set (src_set (src_set (src_set (src_set (src_set hD9.src (b := w.heap.size) (by omega) (by omega) 0 (.int .i64 k)) (b := w.heap.size) (by omega) (by omega) 1 (.int .i64 q)) (b := w.heap.size) (by omega) (by omega) 2 (.int .i64 t)) (b := w.heap.size) (by omega) (by omega) 3 (.int .i64 m)) (b := w.heap.size) (by omega) (by omega) 4 (.int .i64 r)) (b := w.heap.size) (by omega) (by omega) 5 (.int .i64 s)) (b := w.heap.size) (by omega) (by omega) 6 (.int .i64 v)) (b := w.heap.size) (by omega) (by omega) 7 (.slice A xs.length c))
    have GG := Lib.hid (grown_set (p := ⟨w.heap.size, 7, none⟩) (grown_set (p := ⟨w.heap.size, 6, none⟩) (grown_set (p := ⟨w.heap.size, 5, none⟩) (grown_set (p := ⟨w.heap.size, 4, none⟩) (grown_set (p := ⟨w.heap.size, 3, none⟩) (grown_set (p := ⟨w.heap.size, 2, none⟩) (grown_set (p := ⟨w.heap.size, 1, none⟩) (grown_set (p := ⟨w.heap.size, 0, none⟩) hD9.g (.inr (Nat.le_refl _)) (.int .i64 k)) (.inr (Nat.le_refl _)) (.int .i64 q)) (.inr (Nat.le_refl _)) (.int .i64 t)) (.inr (Nat.le_refl _)) (.int .i64 m)) (.inr (Nat.le_refl _)) (.int .i64 r)) (.inr (Nat.le_refl _)) (.int .i64 s)) (.inr (Nat.le_refl _)) (.int .i64 v)) (.inr (Nat.le_refl _)) (.slice A xs.length c))
    have OO := Lib.hid (hD9.own.eight (g := w.heap.size) (by omega) (.int .i64 k) (.int .i64 q) (.int .i64 t) (.int .i64 m) (.int .i64 r) (.int .i64 s) (.int .i64 v) (.slice A xs.length c))
    clear hD9
    go_wp2
    have R := RR.out; have S := SS.out; have G := GG.out; have O := OO.out
    clear RR SS GG OO d0 d1 d2 d3 d4 d5 d6 d7 e0 e1 e2 e3 e4 e5 e6 e7 l0 l1 l2 l3 l4 l5 l6 l7
    revert R S G O
    generalize World.setCell _ _ _ = WF
    intro R S G O
    obtain ⟨e0, e1, e2, e3, e4, e5, e6, e7⟩ := fr_cells R
    exact bodyPost_ret (v := .agg #[.int .i64 k, .int .i64 q, .int .i64 t, .int .i64 m, .int .i64 r, .int .i64 s, .int .i64 v, .slice A xs.length c]) (by simp [results, Try.results74, go_sem, e0, e1, e2, e3, e4, e5, e6, e7]) rfl ⟨_, _, _, _, _, _, _, _, _, rfl, hx, O.less (by omega), S, G⟩
end Go.Proofs.Ytpcdachkmekjgaa

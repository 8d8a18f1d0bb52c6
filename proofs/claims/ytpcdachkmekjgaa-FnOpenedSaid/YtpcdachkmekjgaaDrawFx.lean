/- The draw of a valid frame. -/
import Derived.Test.YtpcdachkmekjgaaDrawSx
import Derived.Test.YtpcdachkmekjgaaDrawBx
import Derived.Test.YtpcdachkmekjgaaFrmH
namespace Go.Proofs.Ytpcdachkmekjgaa
open Go.RowKit
set_option linter.unusedSimpArgs false
set_option linter.unusedVariables false
structure DF (w : World) (B g b : Nat) (k q t m r s v : Int) (W : World) : Prop where
  src : Src W B g
  g : w.grownBy W (some g)
  rr : W.heap[w.heap.size]? = some (.cells #[.int .i64 0, .int .i64 0, .int .i64 0, .int .i64 0, .int .i64 0, .int .i64 0, .int .i64 0, .slice none 0 0] 32 (0, 0))
  rb : W.heap[b]? = some (.cells #[.int .i64 k, .int .i64 q, .int .i64 t, .int .i64 m, .int .i64 r, .int .i64 s, .int .i64 v, .slice none 0 0] 32 (0, 0))
section
variable {w W : World} {B g b : Nat} {k q t m r s v : Int}
theorem DF.next (h : DF w B g b k q t m r s v W) (hl : g < w.heap.size) (hb : w.heap.size < b) {W' : World} (S' : Src W' B g) (g' : W.grownBy W' (some g)) : DF w B g b k q t m r s v W' :=
  ⟨S', grown_trans' h.g g' (.inl rfl), zkeep h.rr g' (by omega), zkeep h.rb g' (by omega)⟩
theorem DF.alloc (h : DF w B g b k q t m r s v W) (o : Obj) : DF w B g b k q t m r s v (W.alloc o) :=
  ⟨h.src.alloc o, grown_alloc h.g o, (Below.heap_alloc W o _ (Below.ltK h.rr)).trans h.rr, (Below.heap_alloc W o _ (Below.ltK h.rb)).trans h.rb⟩
/-- An append to a list of the draw's own. -/
theorem DF.push (h : DF w B g b k q t m r s v W) (hl : g < w.heap.size) (hbB : B ≤ w.heap.size) {W' : World} {o : Obj} {vs : Value} {xs : List Int} {base : Nat} (ho : IOwn W base vs xs) (hbase : b < base) (hbw : w.heap.size < b) (hg : (W.alloc o).grownBy W' vs.ownBlock) : DF w B g b k q t m r s v W' := by
  have lt := ho.lt
  have hA := h.alloc o
  have ne : ∀ i, i < base → vs.ownBlock ≠ some i := fun i hi e => by have := (lt i e).1; omega
  refine ⟨hA.src.kept hg (ne g (by omega)) (fun i hi => by have := (lt i hi).1; omega), grown_trans' hA.g hg (.inr (fun i hi => by have := (lt i hi).1; omega)), ?_, ?_⟩
  · exact (hg.block _ (Below.ltK hA.rr) (fun e => ne _ (by omega) e.symm)).trans hA.rr
  · exact (hg.block _ (Below.ltK hA.rb) (fun e => ne _ (by omega) e.symm)).trans hA.rb
theorem DF.set {i : Nat} {u : Value} {k' q' t' m' r' s' v' : Int} (h : DF w B g b k q t m r s v W) (hl : g < w.heap.size) (hb : w.heap.size < b) (hB : B ≤ g)
    (hr : (W.setCell ⟨b, i, none⟩ u).heap[b]? = some (.cells #[.int .i64 k', .int .i64 q', .int .i64 t', .int .i64 m', .int .i64 r', .int .i64 s', .int .i64 v', .slice none 0 0] 32 (0, 0))) : DF w B g b k' q' t' m' r' s' v' (W.setCell ⟨b, i, none⟩ u) :=
  ⟨src_set h.src (by omega) (by omega) i u, grown_set (p := ⟨b, i, none⟩) h.g (.inr (Nat.le_of_lt hb)) u, (heap_setCell_other _ _ _ _ (by show w.heap.size ≠ b; omega)).trans h.rr, hr⟩
theorem set8_1 {w : World} {b : Nat} {u0 u1 u2 u3 u4 u5 u6 u7 x : Value} {t : TypeId} (h : w.heap[b]? = some (.cells #[u0, u1, u2, u3, u4, u5, u6, u7] t (0, 0))) : (w.setCell ⟨b, 1, none⟩ x).heap[b]? = some (.cells #[u0, x, u2, u3, u4, u5, u6, u7] t (0, 0)) := by simpa using heap_setCell_same _ b 1 _ _ x h
theorem set8_0 {w : World} {b : Nat} {u0 u1 u2 u3 u4 u5 u6 u7 x : Value} {t : TypeId} (h : w.heap[b]? = some (.cells #[u0, u1, u2, u3, u4, u5, u6, u7] t (0, 0))) : (w.setCell ⟨b, 0, none⟩ x).heap[b]? = some (.cells #[x, u1, u2, u3, u4, u5, u6, u7] t (0, 0)) := by simpa using heap_setCell_same _ b 0 _ _ x h
theorem set8_3 {w : World} {b : Nat} {u0 u1 u2 u3 u4 u5 u6 u7 x : Value} {t : TypeId} (h : w.heap[b]? = some (.cells #[u0, u1, u2, u3, u4, u5, u6, u7] t (0, 0))) : (w.setCell ⟨b, 3, none⟩ x).heap[b]? = some (.cells #[u0, u1, u2, x, u4, u5, u6, u7] t (0, 0)) := by simpa using heap_setCell_same _ b 3 _ _ x h
theorem set8_6 {w : World} {b : Nat} {u0 u1 u2 u3 u4 u5 u6 u7 x : Value} {t : TypeId} (h : w.heap[b]? = some (.cells #[u0, u1, u2, u3, u4, u5, u6, u7] t (0, 0))) : (w.setCell ⟨b, 6, none⟩ x).heap[b]? = some (.cells #[u0, u1, u2, u3, u4, u5, x, u7] t (0, 0)) := by simpa using heap_setCell_same _ b 6 _ _ x h
theorem set8_7 {w : World} {b : Nat} {u0 u1 u2 u3 u4 u5 u6 u7 x : Value} {t : TypeId} (h : w.heap[b]? = some (.cells #[u0, u1, u2, u3, u4, u5, u6, u7] t (0, 0))) : (w.setCell ⟨b, 7, none⟩ x).heap[b]? = some (.cells #[u0, u1, u2, u3, u4, u5, u6, x] t (0, 0)) := by simpa using heap_setCell_same _ b 7 _ _ x h
end
def DrewF (B g : Nat) (w : World) (e : Ending) (w' : World) : Prop := ∃ (k q t m r s v : Int) (vs : Value) (xs : List Int), e = .returned (.agg #[.int .i64 k, .int .i64 q, .int .i64 t, .int .i64 m, .int .i64 r, .int .i64 s, .int .i64 v, vs]) ∧ xs.length ≤ 10000 ∧ IOwn w' w.heap.size vs xs ∧ Src w' B g ∧ w.grownBy w' (some g)
set_option maxHeartbeats 4000000 in
theorem s_l06Draw (g B : Nat) (w : World) (h : Src w B g) :
    Calls Try.prog 84 #[.pointer (some ⟨g, 0, none⟩)] w (DrewF B g w) := by
  have hl := h.lt
  have hBg := h.1
  go_enter Try.func84, Try.ntmps84
  go_wp2_with fail
  have S0 := h.alloc (.cells #[.int .i64 0, .int .i64 0, .int .i64 0, .int .i64 0, .int .i64 0, .int .i64 0, .int .i64 0, .slice none 0 0] 32)
  have G0 : w.grownBy (w.alloc (.cells #[.int .i64 0, .int .i64 0, .int .i64 0, .int .i64 0, .int .i64 0, .int .i64 0, .int .i64 0, .slice none 0 0] 32)) (some g) := grown_alloc (World.grownBy.refl _ _) _
  have R0 := heap_alloc_new w (.cells #[.int .i64 0, .int .i64 0, .int .i64 0, .int .i64 0, .int .i64 0, .int .i64 0, .int .i64 0, .slice none 0 0] 32)
  clear h
  refine (s_l01Next g B 4 _ S0).mono ?_
  rintro e w1 ⟨k, rfl, k0, k1, S1, g1⟩
  have G1 := grown_trans' G0 g1 (.inl rfl)
  have R1 := zkeep R0 g1 (by omega)
  clear S0 G0 R0 g1
  go_wp2_with fail
  refine (s_l01Next g B 8 _ S1).mono ?_
  rintro e w2 ⟨q, rfl, _, _, S2, g2⟩
  have G2 := grown_trans' G1 g2 (.inl rfl)
  have R2 := zkeep R1 g2 (by omega)
  have z3 := Below.ltK R2
  clear S1 G1 R1 g2
  go_wp2_with fail
  have D0 : DF w B g w2.heap.size k q 0 0 0 0 0 (w2.alloc (.cells #[.int .i64 k, .int .i64 q, .int .i64 0, .int .i64 0, .int .i64 0, .int .i64 0, .int .i64 0, .slice none 0 0] 32)) := ⟨S2.alloc _, grown_alloc G2 _, (Below.heap_alloc w2 _ _ z3).trans R2, heap_alloc_new w2 _⟩
  have zb : w2.heap.size < (w2.alloc (.cells #[.int .i64 k, .int .i64 q, .int .i64 0, .int .i64 0, .int .i64 0, .int .i64 0, .int .i64 0, .slice none 0 0] 32)).heap.size := (by simp)
  clear S2 G2 R2
  generalize w2.alloc _ = W at D0 zb ⊢
  generalize w2.heap.size = b at D0 z3 zb ⊢
  rcases (show k = 0 ∨ k = 1 ∨ k = 2 ∨ k = 3 by omega) with rfl | rfl | rfl | rfl
  · obtain ⟨d0, d1, d2, d3, d4, d5, d6, d7⟩ := fr_cells D0.rb
    go_upto_region 4 with (first | (go_at_call 88; refine (s_l06State _ _).mono ?_; rintro e w' ⟨rfl, rfl⟩) | (go_at_call 95; refine (s_l06Data _ _).mono ?_; rintro e w' ⟨rfl, rfl⟩))
    clear d0 d1 d2 d3 d4 d5 d6 d7
    obtain ⟨t, m, r, s, v, D⟩ : ∃ t m r s v, DF w B g b 0 q t m r s v W := ⟨_, _, _, _, _, D0⟩
    clear D0
    have zW := zb
    have OA : IOwn (W.alloc (.cells #[] 2)) (b + 1) (.slice (some ⟨W.heap.size, 0, none⟩) 0 0) [] := lit_own W [] _ (by omega) (by simp)
    have DA := D.alloc (.cells #[] 2)
    clear D
    obtain ⟨d0, d1, d2, d3, d4, d5, d6, d7⟩ := fr_cells DA.rb
    go_wp2_with (first | (go_at_call 88; refine (s_l06State _ _).mono ?_; rintro e w' ⟨rfl, rfl⟩) | (go_at_call 95; refine (s_l06Data _ _).mono ?_; rintro e w' ⟨rfl, rfl⟩))
    refine (s_l01Next g B 6 _ DA.src).mono ?_
    rintro e w6 ⟨n6, rfl, n60, n61, S6, g6⟩
    have D6 := DA.next hl z3 S6 g6
    have O6 := OA.kept g6 (.inr (by simp [Value.ownBlock]; have := Below.ltK DA.rb; have := DA.src.lt; omega))
    clear DA OA S6 g6 d0 d1 d2 d3 d4 d5 d6 d7
    go_wp2_with fail
    go_loopw [4, 5] (fun vv i wr => ∃ (n : Int) (xs : List Int), 0 ≤ n ∧ n ≤ 6 ∧ i = .int .i64 n ∧ (xs.length : Int) + n ≤ 6 ∧ IOwn wr (b + 1) vv xs ∧ DF w B g b 0 q t m r s v wr) (fun _ i _ => (intOf i).toNat)
    case atStart => exact ⟨1 + n6, [], by omega, by omega, rfl, by simp; omega, O6, D6⟩
    case round =>
      clear O6 D6
      obtain ⟨n, xs, hn0, hn1, rfl, hlen, O7, D7⟩ := hrel
      have zr := Below.ltK D7.rb
      by_cases hn : 0 < n
      · go_wp2_with fail
        refine (s_l01Next g B 256 _ D7.src).mono ?_
        rintro e w8 ⟨y, rfl, _, _, S8, g8⟩
        have D8 := D7.next hl z3 S8 g8
        have O8 := O7.kept g8 (.inr (own_ne' O7 (by omega)))
        have zr8 := Below.ltK D8.rb
        clear D7 O7 S8 g8
        go_wp2_with (at_builtin; refine wpList_app _ rfl _ _ 24 rfl (b + 1) Try.underlying24 int_info _ xs rfl (O8.alloc _) _ _ 1 1 [y] rfl (lit_ints w8 [y] 2 (by simp)) (by omega) (by simp; omega) ?_; intro v' w' hown' hg' hor)
        have D9 := D8.push hl (by omega) O8 (by omega) z3 hg'
        go_roundw
        case rel => exact ⟨n - 1, xs ++ [y], by omega, by omega, by go_num, by simp; omega, hown', D9⟩
        case measure => simp [intOf]; omega
      · have hx : xs.length ≤ 10000 := (by omega)
        have ho9 := O7
        have hD9 := D7
        clear O7 D7
        obtain ⟨d0, d1, d2, d3, d4, d5, d6, d7⟩ := fr_cells hD9.rb
        obtain ⟨As, cs, rfl, -, -, -⟩ := ho9.form
        go_upto_region 14 with fail
        obtain ⟨e0, e1, e2, e3, e4, e5, e6, e7⟩ := fr_cells hD9.rr
        have l0 := frozen_of_row _ _ 0 _ _ hD9.rr
        have l1 := frozen_of_row _ _ 1 _ _ hD9.rr
        have l2 := frozen_of_row _ _ 2 _ _ hD9.rr
        have l3 := frozen_of_row _ _ 3 _ _ hD9.rr
        have l4 := frozen_of_row _ _ 4 _ _ hD9.rr
        have l5 := frozen_of_row _ _ 5 _ _ hD9.rr
        have l6 := frozen_of_row _ _ 6 _ _ hD9.rr
        have l7 := frozen_of_row _ _ 7 _ _ hD9.rr
        have RR := Lib.hid (eight_heap (v0 := .int .i64 0) (v1 := .int .i64 q) (v2 := .int .i64 t) (v3 := .int .i64 m) (v4 := .int .i64 r) (v5 := .int .i64 s) (v6 := .int .i64 v) (v7 := .slice As xs.length cs) hD9.rr)
        have SS := Lib.hid (src_set (src_set (src_set (src_set (src_set (src_set (src_set (src_set hD9.src (b := w.heap.size) (by omega) (by omega) 0 (.int .i64 0)) (b := w.heap.size) (by omega) (by omega) 1 (.int .i64 q)) (b := w.heap.size) (by omega) (by omega) 2 (.int .i64 t)) (b := w.heap.size) (by omega) (by omega) 3 (.int .i64 m)) (b := w.heap.size) (by omega) (by omega) 4 (.int .i64 r)) (b := w.heap.size) (by omega) (by omega) 5 (.int .i64 s)) (b := w.heap.size) (by omega) (by omega) 6 (.int .i64 v)) (b := w.heap.size) (by omega) (by omega) 7 (.slice As xs.length cs))
        have GG := Lib.hid (grown_set (p := ⟨w.heap.size, 7, none⟩) (grown_set (p := ⟨w.heap.size, 6, none⟩) (grown_set (p := ⟨w.heap.size, 5, none⟩) (grown_set (p := ⟨w.heap.size, 4, none⟩) (grown_set (p := ⟨w.heap.size, 3, none⟩) (grown_set (p := ⟨w.heap.size, 2, none⟩) (grown_set (p := ⟨w.heap.size, 1, none⟩) (grown_set (p := ⟨w.heap.size, 0, none⟩) hD9.g (.inr (Nat.le_refl _)) (.int .i64 0)) (.inr (Nat.le_refl _)) (.int .i64 q)) (.inr (Nat.le_refl _)) (.int .i64 t)) (.inr (Nat.le_refl _)) (.int .i64 m)) (.inr (Nat.le_refl _)) (.int .i64 r)) (.inr (Nat.le_refl _)) (.int .i64 s)) (.inr (Nat.le_refl _)) (.int .i64 v)) (.inr (Nat.le_refl _)) (.slice As xs.length cs))
        have OO := Lib.hid (ho9.eight (g := w.heap.size) (by omega) (.int .i64 0) (.int .i64 q) (.int .i64 t) (.int .i64 m) (.int .i64 r) (.int .i64 s) (.int .i64 v) (.slice As xs.length cs))
        clear hD9 ho9
        go_wp2
        have R := RR.out; have S := SS.out; have G := GG.out; have O := OO.out
        clear RR SS GG OO d0 d1 d2 d3 d4 d5 d6 d7 e0 e1 e2 e3 e4 e5 e6 e7 l0 l1 l2 l3 l4 l5 l6 l7
        revert R S G O
        generalize World.setCell _ _ _ = WF
        intro R S G O
        obtain ⟨e0, e1, e2, e3, e4, e5, e6, e7⟩ := fr_cells R
        exact bodyPost_ret (v := .agg #[.int .i64 0, .int .i64 q, .int .i64 t, .int .i64 m, .int .i64 r, .int .i64 s, .int .i64 v, .slice As xs.length cs]) (by simp [results, Try.results84, go_sem, e0, e1, e2, e3, e4, e5, e6, e7]) rfl ⟨_, _, _, _, _, _, _, _, _, rfl, hx, O.less (by omega), S, G⟩
  · obtain ⟨d0, d1, d2, d3, d4, d5, d6, d7⟩ := fr_cells D0.rb
    go_wp2_with (first | (go_at_call 88; refine (s_l06State _ _).mono ?_; rintro e w' ⟨rfl, rfl⟩) | (go_at_call 95; refine (s_l06Data _ _).mono ?_; rintro e w' ⟨rfl, rfl⟩))
    refine (s_l04Draw g B _ D0.src).mono ?_
    rintro e w5 ⟨t, m, r, s, v, rfl, S5, g5⟩
    have D5 := D0.next hl z3 S5 g5
    have zb5 := g5.size
    clear D0 S5 g5 d0 d1 d2 d3 d4 d5 d6 d7
    obtain ⟨d0, d1, d2, d3, d4, d5, d6, d7⟩ := fr_cells D5.rb
    have l2 := frozen_of_row _ _ 2 _ _ D5.rb
    have l3 := frozen_of_row _ _ 3 _ _ D5.rb
    have l4 := frozen_of_row _ _ 4 _ _ D5.rb
    have l5 := frozen_of_row _ _ 5 _ _ D5.rb
    have l6 := frozen_of_row _ _ 6 _ _ D5.rb
    have hE : DF w B g b 1 q t m r s v _ := ⟨(src_set (src_set (src_set (src_set (src_set D5.src (b := b) (by omega) (by omega) 2 (.int .i64 t)) (b := b) (by omega) (by omega) 3 (.int .i64 m)) (b := b) (by omega) (by omega) 4 (.int .i64 r)) (b := b) (by omega) (by omega) 5 (.int .i64 s)) (b := b) (by omega) (by omega) 6 (.int .i64 v)), (grown_set (p := ⟨b, 6, none⟩) (grown_set (p := ⟨b, 5, none⟩) (grown_set (p := ⟨b, 4, none⟩) (grown_set (p := ⟨b, 3, none⟩) (grown_set (p := ⟨b, 2, none⟩) D5.g (.inr (Nat.le_of_lt z3)) (.int .i64 t)) (.inr (Nat.le_of_lt z3)) (.int .i64 m)) (.inr (Nat.le_of_lt z3)) (.int .i64 r)) (.inr (Nat.le_of_lt z3)) (.int .i64 s)) (.inr (Nat.le_of_lt z3)) (.int .i64 v)), (five_other8 (by omega)).trans D5.rr, five_heap8 (v2 := .int .i64 t) (v3 := .int .i64 m) (v4 := .int .i64 r) (v5 := .int .i64 s) (v6 := .int .i64 v) D5.rb⟩
    have HE := Lib.hid hE
    have hz : b < _ := Below.ltK hE.rb
    have HZ := Lib.hid hz
    clear hE hz D5
    go_upto_region 4 with fail
    have D := HE.out; have zW := HZ.out
    clear HE HZ d0 d1 d2 d3 d4 d5 d6 d7 l2 l3 l4 l5 l6
    generalize World.setCell _ _ _ = W at D zW ⊢
    have OA : IOwn (W.alloc (.cells #[] 2)) (b + 1) (.slice (some ⟨W.heap.size, 0, none⟩) 0 0) [] := lit_own W [] _ (by omega) (by simp)
    have DA := D.alloc (.cells #[] 2)
    clear D
    obtain ⟨d0, d1, d2, d3, d4, d5, d6, d7⟩ := fr_cells DA.rb
    go_upto_region 14 with (first | (go_at_call 88; refine (s_l06State _ _).mono ?_; rintro e w' ⟨rfl, rfl⟩) | (go_at_call 95; refine (s_l06Data _ _).mono ?_; rintro e w' ⟨rfl, rfl⟩))
    have hx : ([] : List Int).length ≤ 10000 := (by simp)
    have ho9 := OA
    have hD9 := DA
    clear OA DA
    obtain ⟨e0, e1, e2, e3, e4, e5, e6, e7⟩ := fr_cells hD9.rr
    have l0 := frozen_of_row _ _ 0 _ _ hD9.rr
    have l1 := frozen_of_row _ _ 1 _ _ hD9.rr
    have l2 := frozen_of_row _ _ 2 _ _ hD9.rr
    have l3 := frozen_of_row _ _ 3 _ _ hD9.rr
    have l4 := frozen_of_row _ _ 4 _ _ hD9.rr
    have l5 := frozen_of_row _ _ 5 _ _ hD9.rr
    have l6 := frozen_of_row _ _ 6 _ _ hD9.rr
    have l7 := frozen_of_row _ _ 7 _ _ hD9.rr
    have RR := Lib.hid (eight_heap (v0 := .int .i64 1) (v1 := .int .i64 q) (v2 := .int .i64 t) (v3 := .int .i64 m) (v4 := .int .i64 r) (v5 := .int .i64 s) (v6 := .int .i64 v) (v7 := .slice (some ⟨W.heap.size, 0, none⟩) 0 0) hD9.rr)
    have SS := Lib.hid (src_set (src_set (src_set (src_set (src_set (src_set (src_set (src_set hD9.src (b := w.heap.size) (by omega) (by omega) 0 (.int .i64 1)) (b := w.heap.size) (by omega) (by omega) 1 (.int .i64 q)) (b := w.heap.size) (by omega) (by omega) 2 (.int .i64 t)) (b := w.heap.size) (by omega) (by omega) 3 (.int .i64 m)) (b := w.heap.size) (by omega) (by omega) 4 (.int .i64 r)) (b := w.heap.size) (by omega) (by omega) 5 (.int .i64 s)) (b := w.heap.size) (by omega) (by omega) 6 (.int .i64 v)) (b := w.heap.size) (by omega) (by omega) 7 (.slice (some ⟨W.heap.size, 0, none⟩) 0 0))
    have GG := Lib.hid (grown_set (p := ⟨w.heap.size, 7, none⟩) (grown_set (p := ⟨w.heap.size, 6, none⟩) (grown_set (p := ⟨w.heap.size, 5, none⟩) (grown_set (p := ⟨w.heap.size, 4, none⟩) (grown_set (p := ⟨w.heap.size, 3, none⟩) (grown_set (p := ⟨w.heap.size, 2, none⟩) (grown_set (p := ⟨w.heap.size, 1, none⟩) (grown_set (p := ⟨w.heap.size, 0, none⟩) hD9.g (.inr (Nat.le_refl _)) (.int .i64 1)) (.inr (Nat.le_refl _)) (.int .i64 q)) (.inr (Nat.le_refl _)) (.int .i64 t)) (.inr (Nat.le_refl _)) (.int .i64 m)) (.inr (Nat.le_refl _)) (.int .i64 r)) (.inr (Nat.le_refl _)) (.int .i64 s)) (.inr (Nat.le_refl _)) (.int .i64 v)) (.inr (Nat.le_refl _)) (.slice (some ⟨W.heap.size, 0, none⟩) 0 0))
    have OO := Lib.hid (ho9.eight (g := w.heap.size) (by omega) (.int .i64 1) (.int .i64 q) (.int .i64 t) (.int .i64 m) (.int .i64 r) (.int .i64 s) (.int .i64 v) (.slice (some ⟨W.heap.size, 0, none⟩) 0 0))
    clear hD9 ho9
    go_wp2
    have R := RR.out; have S := SS.out; have G := GG.out; have O := OO.out
    clear RR SS GG OO d0 d1 d2 d3 d4 d5 d6 d7 e0 e1 e2 e3 e4 e5 e6 e7 l0 l1 l2 l3 l4 l5 l6 l7
    revert R S G O
    generalize World.setCell _ _ _ = WF
    intro R S G O
    obtain ⟨e0, e1, e2, e3, e4, e5, e6, e7⟩ := fr_cells R
    exact bodyPost_ret (v := .agg #[.int .i64 1, .int .i64 q, .int .i64 t, .int .i64 m, .int .i64 r, .int .i64 s, .int .i64 v, .slice (some ⟨W.heap.size, 0, none⟩) 0 0]) (by simp [results, Try.results84, go_sem, e0, e1, e2, e3, e4, e5, e6, e7]) rfl ⟨_, _, _, _, _, _, _, _, _, rfl, hx, O.less (by omega), S, G⟩
  · obtain ⟨d0, d1, d2, d3, d4, d5, d6, d7⟩ := fr_cells D0.rb
    go_wp2_with (first | (go_at_call 88; refine (s_l06State _ _).mono ?_; rintro e w' ⟨rfl, rfl⟩) | (go_at_call 95; refine (s_l06Data _ _).mono ?_; rintro e w' ⟨rfl, rfl⟩))
    refine (s_l04Draw g B _ D0.src).mono ?_
    rintro e w5 ⟨t, m, r, s, v, rfl, S5, g5⟩
    have D5 := D0.next hl z3 S5 g5
    have zb5 := g5.size
    clear D0 S5 g5 d0 d1 d2 d3 d4 d5 d6 d7
    obtain ⟨d0, d1, d2, d3, d4, d5, d6, d7⟩ := fr_cells D5.rb
    have l2 := frozen_of_row _ _ 2 _ _ D5.rb
    have l3 := frozen_of_row _ _ 3 _ _ D5.rb
    have l4 := frozen_of_row _ _ 4 _ _ D5.rb
    have l5 := frozen_of_row _ _ 5 _ _ D5.rb
    have l6 := frozen_of_row _ _ 6 _ _ D5.rb
    have hE : DF w B g b 2 q t m r s v _ := ⟨(src_set (src_set (src_set (src_set (src_set D5.src (b := b) (by omega) (by omega) 2 (.int .i64 t)) (b := b) (by omega) (by omega) 3 (.int .i64 m)) (b := b) (by omega) (by omega) 4 (.int .i64 r)) (b := b) (by omega) (by omega) 5 (.int .i64 s)) (b := b) (by omega) (by omega) 6 (.int .i64 v)), (grown_set (p := ⟨b, 6, none⟩) (grown_set (p := ⟨b, 5, none⟩) (grown_set (p := ⟨b, 4, none⟩) (grown_set (p := ⟨b, 3, none⟩) (grown_set (p := ⟨b, 2, none⟩) D5.g (.inr (Nat.le_of_lt z3)) (.int .i64 t)) (.inr (Nat.le_of_lt z3)) (.int .i64 m)) (.inr (Nat.le_of_lt z3)) (.int .i64 r)) (.inr (Nat.le_of_lt z3)) (.int .i64 s)) (.inr (Nat.le_of_lt z3)) (.int .i64 v)), (five_other8 (by omega)).trans D5.rr, five_heap8 (v2 := .int .i64 t) (v3 := .int .i64 m) (v4 := .int .i64 r) (v5 := .int .i64 s) (v6 := .int .i64 v) D5.rb⟩
    have HE := Lib.hid hE
    have hz : b < _ := Below.ltK hE.rb
    have HZ := Lib.hid hz
    clear hE hz D5
    go_upto_region 4 with fail
    have D := HE.out; have zW := HZ.out
    clear HE HZ d0 d1 d2 d3 d4 d5 d6 d7 l2 l3 l4 l5 l6
    generalize World.setCell _ _ _ = W at D zW ⊢
    have OA : IOwn (W.alloc (.cells #[] 2)) (b + 1) (.slice (some ⟨W.heap.size, 0, none⟩) 0 0) [] := lit_own W [] _ (by omega) (by simp)
    have DA := D.alloc (.cells #[] 2)
    clear D
    obtain ⟨d0, d1, d2, d3, d4, d5, d6, d7⟩ := fr_cells DA.rb
    go_wp2_with (first | (go_at_call 88; refine (s_l06State _ _).mono ?_; rintro e w' ⟨rfl, rfl⟩) | (go_at_call 95; refine (s_l06Data _ _).mono ?_; rintro e w' ⟨rfl, rfl⟩))
    refine (s_l01Next g B 6 _ DA.src).mono ?_
    rintro e w6 ⟨n6, rfl, n60, n61, S6, g6⟩
    have D6 := DA.next hl z3 S6 g6
    have O6 := OA.kept g6 (.inr (by simp [Value.ownBlock]; have := Below.ltK DA.rb; have := DA.src.lt; omega))
    clear DA OA S6 g6 d0 d1 d2 d3 d4 d5 d6 d7
    go_wp2_with fail
    go_loopw [4, 5] (fun vv i wr => ∃ (n : Int) (xs : List Int), 0 ≤ n ∧ n ≤ 6 ∧ i = .int .i64 n ∧ (xs.length : Int) + n ≤ 6 ∧ IOwn wr (b + 1) vv xs ∧ DF w B g b 2 q t m r s v wr) (fun _ i _ => (intOf i).toNat)
    case atStart => exact ⟨1 + n6, [], by omega, by omega, rfl, by simp; omega, O6, D6⟩
    case round =>
      clear O6 D6
      obtain ⟨n, xs, hn0, hn1, rfl, hlen, O7, D7⟩ := hrel
      have zr := Below.ltK D7.rb
      by_cases hn : 0 < n
      · go_wp2_with fail
        refine (s_l01Next g B 256 _ D7.src).mono ?_
        rintro e w8 ⟨y, rfl, _, _, S8, g8⟩
        have D8 := D7.next hl z3 S8 g8
        have O8 := O7.kept g8 (.inr (own_ne' O7 (by omega)))
        have zr8 := Below.ltK D8.rb
        clear D7 O7 S8 g8
        go_wp2_with (at_builtin; refine wpList_app _ rfl _ _ 24 rfl (b + 1) Try.underlying24 int_info _ xs rfl (O8.alloc _) _ _ 1 1 [y] rfl (lit_ints w8 [y] 2 (by simp)) (by omega) (by simp; omega) ?_; intro v' w' hown' hg' hor)
        have D9 := D8.push hl (by omega) O8 (by omega) z3 hg'
        go_roundw
        case rel => exact ⟨n - 1, xs ++ [y], by omega, by omega, by go_num, by simp; omega, hown', D9⟩
        case measure => simp [intOf]; omega
      · have hx : xs.length ≤ 10000 := (by omega)
        have ho9 := O7
        have hD9 := D7
        clear O7 D7
        obtain ⟨d0, d1, d2, d3, d4, d5, d6, d7⟩ := fr_cells hD9.rb
        obtain ⟨As, cs, rfl, -, -, -⟩ := ho9.form
        go_upto_region 14 with fail
        obtain ⟨e0, e1, e2, e3, e4, e5, e6, e7⟩ := fr_cells hD9.rr
        have l0 := frozen_of_row _ _ 0 _ _ hD9.rr
        have l1 := frozen_of_row _ _ 1 _ _ hD9.rr
        have l2 := frozen_of_row _ _ 2 _ _ hD9.rr
        have l3 := frozen_of_row _ _ 3 _ _ hD9.rr
        have l4 := frozen_of_row _ _ 4 _ _ hD9.rr
        have l5 := frozen_of_row _ _ 5 _ _ hD9.rr
        have l6 := frozen_of_row _ _ 6 _ _ hD9.rr
        have l7 := frozen_of_row _ _ 7 _ _ hD9.rr
        have RR := Lib.hid (eight_heap (v0 := .int .i64 2) (v1 := .int .i64 q) (v2 := .int .i64 t) (v3 := .int .i64 m) (v4 := .int .i64 r) (v5 := .int .i64 s) (v6 := .int .i64 v) (v7 := .slice As xs.length cs) hD9.rr)
        have SS := Lib.hid (src_set (src_set (src_set (src_set (src_set (src_set (src_set (src_set hD9.src (b := w.heap.size) (by omega) (by omega) 0 (.int .i64 2)) (b := w.heap.size) (by omega) (by omega) 1 (.int .i64 q)) (b := w.heap.size) (by omega) (by omega) 2 (.int .i64 t)) (b := w.heap.size) (by omega) (by omega) 3 (.int .i64 m)) (b := w.heap.size) (by omega) (by omega) 4 (.int .i64 r)) (b := w.heap.size) (by omega) (by omega) 5 (.int .i64 s)) (b := w.heap.size) (by omega) (by omega) 6 (.int .i64 v)) (b := w.heap.size) (by omega) (by omega) 7 (.slice As xs.length cs))
        have GG := Lib.hid (grown_set (p := ⟨w.heap.size, 7, none⟩) (grown_set (p := ⟨w.heap.size, 6, none⟩) (grown_set (p := ⟨w.heap.size, 5, none⟩) (grown_set (p := ⟨w.heap.size, 4, none⟩) (grown_set (p := ⟨w.heap.size, 3, none⟩) (grown_set (p := ⟨w.heap.size, 2, none⟩) (grown_set (p := ⟨w.heap.size, 1, none⟩) (grown_set (p := ⟨w.heap.size, 0, none⟩) hD9.g (.inr (Nat.le_refl _)) (.int .i64 2)) (.inr (Nat.le_refl _)) (.int .i64 q)) (.inr (Nat.le_refl _)) (.int .i64 t)) (.inr (Nat.le_refl _)) (.int .i64 m)) (.inr (Nat.le_refl _)) (.int .i64 r)) (.inr (Nat.le_refl _)) (.int .i64 s)) (.inr (Nat.le_refl _)) (.int .i64 v)) (.inr (Nat.le_refl _)) (.slice As xs.length cs))
        have OO := Lib.hid (ho9.eight (g := w.heap.size) (by omega) (.int .i64 2) (.int .i64 q) (.int .i64 t) (.int .i64 m) (.int .i64 r) (.int .i64 s) (.int .i64 v) (.slice As xs.length cs))
        clear hD9 ho9
        go_wp2
        have R := RR.out; have S := SS.out; have G := GG.out; have O := OO.out
        clear RR SS GG OO d0 d1 d2 d3 d4 d5 d6 d7 e0 e1 e2 e3 e4 e5 e6 e7 l0 l1 l2 l3 l4 l5 l6 l7
        revert R S G O
        generalize World.setCell _ _ _ = WF
        intro R S G O
        obtain ⟨e0, e1, e2, e3, e4, e5, e6, e7⟩ := fr_cells R
        exact bodyPost_ret (v := .agg #[.int .i64 2, .int .i64 q, .int .i64 t, .int .i64 m, .int .i64 r, .int .i64 s, .int .i64 v, .slice As xs.length cs]) (by simp [results, Try.results84, go_sem, e0, e1, e2, e3, e4, e5, e6, e7]) rfl ⟨_, _, _, _, _, _, _, _, _, rfl, hx, O.less (by omega), S, G⟩
  · obtain ⟨d0, d1, d2, d3, d4, d5, d6, d7⟩ := fr_cells D0.rb
    go_wp2_with (first | (go_at_call 88; refine (s_l06State _ _).mono ?_; rintro e w' ⟨rfl, rfl⟩) | (go_at_call 95; refine (s_l06Data _ _).mono ?_; rintro e w' ⟨rfl, rfl⟩))
    refine (s_l04Draw g B _ D0.src).mono ?_
    rintro e w5 ⟨t, m, r, s, v, rfl, S5, g5⟩
    have D5 := D0.next hl z3 S5 g5
    have zb5 := g5.size
    clear D0 S5 g5 d0 d1 d2 d3 d4 d5 d6 d7
    obtain ⟨d0, d1, d2, d3, d4, d5, d6, d7⟩ := fr_cells D5.rb
    have l2 := frozen_of_row _ _ 2 _ _ D5.rb
    have l3 := frozen_of_row _ _ 3 _ _ D5.rb
    have l4 := frozen_of_row _ _ 4 _ _ D5.rb
    have l5 := frozen_of_row _ _ 5 _ _ D5.rb
    have l6 := frozen_of_row _ _ 6 _ _ D5.rb
    have hE : DF w B g b 3 q t m r s v _ := ⟨(src_set (src_set (src_set (src_set (src_set D5.src (b := b) (by omega) (by omega) 2 (.int .i64 t)) (b := b) (by omega) (by omega) 3 (.int .i64 m)) (b := b) (by omega) (by omega) 4 (.int .i64 r)) (b := b) (by omega) (by omega) 5 (.int .i64 s)) (b := b) (by omega) (by omega) 6 (.int .i64 v)), (grown_set (p := ⟨b, 6, none⟩) (grown_set (p := ⟨b, 5, none⟩) (grown_set (p := ⟨b, 4, none⟩) (grown_set (p := ⟨b, 3, none⟩) (grown_set (p := ⟨b, 2, none⟩) D5.g (.inr (Nat.le_of_lt z3)) (.int .i64 t)) (.inr (Nat.le_of_lt z3)) (.int .i64 m)) (.inr (Nat.le_of_lt z3)) (.int .i64 r)) (.inr (Nat.le_of_lt z3)) (.int .i64 s)) (.inr (Nat.le_of_lt z3)) (.int .i64 v)), (five_other8 (by omega)).trans D5.rr, five_heap8 (v2 := .int .i64 t) (v3 := .int .i64 m) (v4 := .int .i64 r) (v5 := .int .i64 s) (v6 := .int .i64 v) D5.rb⟩
    have HE := Lib.hid hE
    have hz : b < _ := Below.ltK hE.rb
    have HZ := Lib.hid hz
    clear hE hz D5
    go_upto_region 4 with fail
    have D := HE.out; have zW := HZ.out
    clear HE HZ d0 d1 d2 d3 d4 d5 d6 d7 l2 l3 l4 l5 l6
    generalize World.setCell _ _ _ = W at D zW ⊢
    have OA : IOwn (W.alloc (.cells #[] 2)) (b + 1) (.slice (some ⟨W.heap.size, 0, none⟩) 0 0) [] := lit_own W [] _ (by omega) (by simp)
    have DA := D.alloc (.cells #[] 2)
    clear D
    go_upto_region 5 with fail
    generalize W.alloc _ = WA at DA OA ⊢
    generalize W.heap.size = ob at OA ⊢
    obtain ⟨d0, d1, d2, d3, d4, d5, d6, d7⟩ := fr_cells DA.rb
    have k1' := frozen_of_row _ _ 1 _ _ DA.rb
    have k3' := frozen_of_row _ _ 3 _ _ DA.rb
    have DA1 := DA.set (i := 1) (u := .int .i64 0) hl z3 hBg (set8_1 DA.rb)
    have DA2 := Lib.hid (DA1.set (i := 3) (u := .int .i64 0) hl z3 hBg (set8_3 DA1.rb))
    have OA2 := Lib.hid ((OA.setB (g := b) (k := 1) (by omega) (.int .i64 0)).setB (g := b) (k := 3) (by omega) (.int .i64 0))
    clear DA DA1 OA
    go_upto_region 13 with (first | (go_at_call 88; refine (s_l06State _ _).mono ?_; rintro e w' ⟨rfl, rfl⟩) | (go_at_call 95; refine (s_l06Data _ _).mono ?_; rintro e w' ⟨rfl, rfl⟩))
    have D2 := DA2.out; have O2 := OA2.out
    clear DA2 OA2 d0 d1 d2 d3 d4 d5 d6 d7 k1' k3'
    generalize World.setCell _ _ _ = W2 at D2 O2 ⊢
    go_wp2_with fail
    refine (s_l01Next g B 10 _ D2.src).mono ?_
    rintro e w7 ⟨r7, rfl, r70, r71, S7, g7⟩
    have D7 := D2.next hl z3 S7 g7
    have O7 := O2.kept g7 (.inr (own_ne' O2 (by omega)))
    obtain ⟨p7, rfl⟩ := nat_of' r7 r70
    have p70 : (0 : Int) ≤ (p7 : Int) := r70
    have p71 : (p7 : Int) < 10 := (by omega)
    clear D2 O2 S7 g7 r71
    obtain ⟨d0, d1, d2, d3, d4, d5, d6, d7⟩ := fr_cells D7.rb
    have k6' := frozen_of_row _ _ 6 _ _ D7.rb
    have HS : Hid (∀ x : Int, DF w B g b 3 0 t 0 r s x (w7.setCell ⟨b, 6, none⟩ (.int .i64 x)) ∧ IOwn (w7.setCell ⟨b, 6, none⟩ (.int .i64 x)) (b + 1) (.slice (some ⟨ob, 0, none⟩) 0 0) []) := Lib.hid (fun x => ⟨D7.set (i := 6) (u := .int .i64 x) hl z3 hBg (set8_6 D7.rb), O7.setB (g := b) (k := 6) (by omega) (.int .i64 x)⟩)
    clear D7 O7
    go_upto_region 14 with fail
    generalize hX : World.setCell _ _ _ = WX
    obtain ⟨x, hx9⟩ : ∃ x : Int, WX = w7.setCell ⟨b, 6, none⟩ (.int .i64 x) := ⟨_, hX.symm⟩
    have hD9 := (HS.out x).1
    have ho9 := (HS.out x).2
    rw [← hx9] at hD9 ho9
    clear hx9 hX HS d0 d1 d2 d3 d4 d5 d6 d7 k6'
    have hx : ([] : List Int).length ≤ 10000 := (by simp)
    obtain ⟨d0, d1, d2, d3, d4, d5, d6, d7⟩ := fr_cells hD9.rb
    obtain ⟨e0, e1, e2, e3, e4, e5, e6, e7⟩ := fr_cells hD9.rr
    have l0 := frozen_of_row _ _ 0 _ _ hD9.rr
    have l1 := frozen_of_row _ _ 1 _ _ hD9.rr
    have l2 := frozen_of_row _ _ 2 _ _ hD9.rr
    have l3 := frozen_of_row _ _ 3 _ _ hD9.rr
    have l4 := frozen_of_row _ _ 4 _ _ hD9.rr
    have l5 := frozen_of_row _ _ 5 _ _ hD9.rr
    have l6 := frozen_of_row _ _ 6 _ _ hD9.rr
    have l7 := frozen_of_row _ _ 7 _ _ hD9.rr
    have RR := Lib.hid (eight_heap (v0 := .int .i64 3) (v1 := .int .i64 0) (v2 := .int .i64 t) (v3 := .int .i64 0) (v4 := .int .i64 r) (v5 := .int .i64 s) (v6 := .int .i64 x) (v7 := .slice (some ⟨ob, 0, none⟩) 0 0) hD9.rr)
    have SS := Lib.hid (src_set (src_set (src_set (src_set (src_set (src_set (src_set (src_set hD9.src (b := w.heap.size) (by omega) (by omega) 0 (.int .i64 3)) (b := w.heap.size) (by omega) (by omega) 1 (.int .i64 0)) (b := w.heap.size) (by omega) (by omega) 2 (.int .i64 t)) (b := w.heap.size) (by omega) (by omega) 3 (.int .i64 0)) (b := w.heap.size) (by omega) (by omega) 4 (.int .i64 r)) (b := w.heap.size) (by omega) (by omega) 5 (.int .i64 s)) (b := w.heap.size) (by omega) (by omega) 6 (.int .i64 x)) (b := w.heap.size) (by omega) (by omega) 7 (.slice (some ⟨ob, 0, none⟩) 0 0))
    have GG := Lib.hid (grown_set (p := ⟨w.heap.size, 7, none⟩) (grown_set (p := ⟨w.heap.size, 6, none⟩) (grown_set (p := ⟨w.heap.size, 5, none⟩) (grown_set (p := ⟨w.heap.size, 4, none⟩) (grown_set (p := ⟨w.heap.size, 3, none⟩) (grown_set (p := ⟨w.heap.size, 2, none⟩) (grown_set (p := ⟨w.heap.size, 1, none⟩) (grown_set (p := ⟨w.heap.size, 0, none⟩) hD9.g (.inr (Nat.le_refl _)) (.int .i64 3)) (.inr (Nat.le_refl _)) (.int .i64 0)) (.inr (Nat.le_refl _)) (.int .i64 t)) (.inr (Nat.le_refl _)) (.int .i64 0)) (.inr (Nat.le_refl _)) (.int .i64 r)) (.inr (Nat.le_refl _)) (.int .i64 s)) (.inr (Nat.le_refl _)) (.int .i64 x)) (.inr (Nat.le_refl _)) (.slice (some ⟨ob, 0, none⟩) 0 0))
    have OO := Lib.hid (ho9.eight (g := w.heap.size) (by omega) (.int .i64 3) (.int .i64 0) (.int .i64 t) (.int .i64 0) (.int .i64 r) (.int .i64 s) (.int .i64 x) (.slice (some ⟨ob, 0, none⟩) 0 0))
    clear hD9 ho9
    go_wp2
    have R := RR.out; have S := SS.out; have G := GG.out; have O := OO.out
    clear RR SS GG OO d0 d1 d2 d3 d4 d5 d6 d7 e0 e1 e2 e3 e4 e5 e6 e7 l0 l1 l2 l3 l4 l5 l6 l7
    revert R S G O
    generalize World.setCell _ _ _ = WF
    intro R S G O
    obtain ⟨e0, e1, e2, e3, e4, e5, e6, e7⟩ := fr_cells R
    exact bodyPost_ret (v := .agg #[.int .i64 3, .int .i64 0, .int .i64 t, .int .i64 0, .int .i64 r, .int .i64 s, .int .i64 x, .slice (some ⟨ob, 0, none⟩) 0 0]) (by simp [results, Try.results84, go_sem, e0, e1, e2, e3, e4, e5, e6, e7]) rfl ⟨_, _, _, _, _, _, _, _, _, rfl, hx, O.less (by omega), S, G⟩
end Go.Proofs.Ytpcdachkmekjgaa

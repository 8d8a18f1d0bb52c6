/- The draws of vectors: only ranges and shapes are said. -/
import Derived.Test.YtjheanonklgbcaaDraw
import Derived.Test.YtjheanonklgbcaaVec2
namespace Go.Proofs.Ytjheanonklgbcaa
open Go.RowKit
set_option linter.unusedSimpArgs false
set_option linter.unusedVariables false
def DrewIn (B g : Nat) (w : World) (lo hi : Int) (e : Ending) (w' : World) : Prop := ∃ r : Int, e = .returned (.int .i64 r) ∧ lo ≤ r ∧ r ≤ hi ∧ Src w' B g ∧ w.grownBy w' (some g)
def DrewList (w : World) (e : Ending) (w' : World) : Prop := ∃ (v : Value) (xs : List Int), e = .returned v ∧ xs.length ≤ 10000 ∧ IOwn w' w.heap.size v xs ∧ Below w.heap.size w w'
theorem own_ne {w : World} {base g : Nat} {v : Value} {xs : List Int} (h : IOwn w base v xs) (hg : g < base) : v.ownBlock ≠ some g := fun e => by have := (h.lt g e).1; omega
/-- From the source's making to a draw's end: nothing that was there has changed. -/
theorem src_below {w w1 w2 : World} {g : Nat} (hb : Below w.heap.size w w1) (hg : w1.grownBy w2 (some g)) (hgg : w.heap.size ≤ g) : Below w.heap.size w w2 :=
  hb.trans (grown_below hg hb.size (fun k hk => by injection hk with hk; omega))
set_option maxHeartbeats 400000 in
theorem s_l05Draw (g B : Nat) (w : World) (h : Src w B g) :
    Calls Try.prog 79 #[.pointer (some ⟨g, 0, none⟩)] w (DrewIn B g w (-1) 4294967296) := by
  go_enter Try.func79, Try.ntmps79
  go_wp2_with fail
  refine (s_l01Next g B 24 _ h).mono ?_
  rintro e w1 ⟨r, rfl, h0, h1, S1, g1⟩
  have hlt := S1.lt
  by_cases hr : r = 0
  · subst hr
    go_wp2_with fail
    refine (s_l01Next g B 4 _ (S1.alloc _)).mono ?_
    rintro e w2 ⟨r2, rfl, k0, k1, S2, g2⟩
    have hblk := g2.block w1.heap.size (by simp) (by intro e; injection e with e; omega)
    rw [show (w1.alloc (.cells #[.int .i64 (-1), .int .i64 4294967296, .int .i64 4294967295, .int .i64 0] 2)).heap[w1.heap.size]? = some (.cells #[.int .i64 (-1), .int .i64 4294967296, .int .i64 4294967295, .int .i64 0] 2 (0, 0)) from heap_alloc_new w1 _] at hblk
    have G := grown_trans' (grown_alloc g1 _) g2 (.inl rfl)
    have c0 : w2.cell? ⟨w1.heap.size, 0, none⟩ = some (.int .i64 (-1)) := cell_of_row _ _ _ _ _ _ hblk
    have c1 : w2.cell? ⟨w1.heap.size, 1, none⟩ = some (.int .i64 (4294967296)) := cell_of_row _ _ _ _ _ _ hblk
    have c2 : w2.cell? ⟨w1.heap.size, 2, none⟩ = some (.int .i64 (4294967295)) := cell_of_row _ _ _ _ _ _ hblk
    have c3 : w2.cell? ⟨w1.heap.size, 3, none⟩ = some (.int .i64 (0)) := cell_of_row _ _ _ _ _ _ hblk
    clear hblk g2 g1
    rcases (show r2 = 0 ∨ r2 = 1 ∨ r2 = 2 ∨ r2 = 3 by omega) with rfl | rfl | rfl | rfl
    all_goals
      go_wp2
      go_ret
      exact ⟨_, rfl, by omega, by omega, S2, G⟩
  · have hr' : (r == 0) = false := by simpa using hr
    clear hr
    go_wp2_with fail
    refine (s_l01Next g B 1024 _ S1).mono ?_
    rintro e w2 ⟨r2, rfl, k0, k1, S2, g2⟩
    go_wp2
    go_ret
    exact ⟨_, rfl, by omega, by omega, S2, grown_trans' g1 g2 (.inl rfl)⟩
set_option maxHeartbeats 400000 in
theorem s_l05DrawNode (g B : Nat) (w : World) (h : Src w B g) :
    Calls Try.prog 78 #[.pointer (some ⟨g, 0, none⟩)] w (DrewIn B g w (-1) 32) := by
  go_enter Try.func78, Try.ntmps78
  go_wp2_with fail
  refine (s_l01Next g B 20 _ h).mono ?_
  rintro e w1 ⟨r, rfl, h0, h1, S1, g1⟩
  have hlt := S1.lt
  by_cases hr : r = 0
  · subst hr
    go_wp2_with fail
    refine (s_l01Next g B 3 _ (S1.alloc _)).mono ?_
    rintro e w2 ⟨r2, rfl, k0, k1, S2, g2⟩
    have hblk := g2.block w1.heap.size (by simp) (by intro e; injection e with e; omega)
    rw [show (w1.alloc (.cells #[.int .i64 (-1), .int .i64 31, .int .i64 32] 2)).heap[w1.heap.size]? = some (.cells #[.int .i64 (-1), .int .i64 31, .int .i64 32] 2 (0, 0)) from heap_alloc_new w1 _] at hblk
    have G := grown_trans' (grown_alloc g1 _) g2 (.inl rfl)
    have c0 : w2.cell? ⟨w1.heap.size, 0, none⟩ = some (.int .i64 (-1)) := cell_of_row _ _ _ _ _ _ hblk
    have c1 : w2.cell? ⟨w1.heap.size, 1, none⟩ = some (.int .i64 (31)) := cell_of_row _ _ _ _ _ _ hblk
    have c2 : w2.cell? ⟨w1.heap.size, 2, none⟩ = some (.int .i64 (32)) := cell_of_row _ _ _ _ _ _ hblk
    clear hblk g2 g1
    rcases (show r2 = 0 ∨ r2 = 1 ∨ r2 = 2 by omega) with rfl | rfl | rfl
    all_goals
      go_wp2
      go_ret
      exact ⟨_, rfl, by omega, by omega, S2, G⟩
  · have hr' : (r == 0) = false := by simpa using hr
    clear hr
    go_wp2_with fail
    refine (s_l01Next g B 10 _ S1).mono ?_
    rintro e w2 ⟨r2, rfl, k0, k1, S2, g2⟩
    go_wp2
    go_ret
    exact ⟨_, rfl, by omega, by omega, S2, grown_trans' g1 g2 (.inl rfl)⟩
theorem s_DrawMembersOf (A : Option Addr) (n c : Nat) (bs : List Int) (B : Nat) (w : World) (h : BytesAt w B A n c bs) (hB : B ≤ w.heap.size) :
    Calls Try.prog 50 #[.slice A n c] w fun e w' => ∃ r : Int, e = .returned (.int .i64 r) ∧ Below w.heap.size w w' := by
  go_enter Try.func50, Try.ntmps50
  go_wp2_with fail
  refine (s_l01From _ _ _ _ _ _ h hB).mono ?_
  rintro e w1 ⟨g, rfl, S1, hg, hb⟩
  go_wp2_with fail
  refine (s_l05Draw _ _ _ S1).mono ?_
  rintro e w2 ⟨r, rfl, _, _, S2, g2⟩
  go_wp2
  go_ret
  exact ⟨_, rfl, src_below hb g2 hg⟩
theorem s_DrawSetMember (A : Option Addr) (n c : Nat) (bs : List Int) (B : Nat) (w : World) (h : BytesAt w B A n c bs) (hB : B ≤ w.heap.size) :
    Calls Try.prog 53 #[.slice A n c] w fun e w' => ∃ (m k : Int) (b : Bool), e = .returned (.tuple #[.int .i64 m, .int .i64 k, .bool b]) ∧ Below w.heap.size w w' := by
  go_enter Try.func53, Try.ntmps53
  go_wp2_with fail
  refine (s_l01From _ _ _ _ _ _ h hB).mono ?_
  rintro e w1 ⟨g, rfl, S1, hg, hb⟩
  go_wp2_with fail
  refine (s_l05Draw _ _ _ S1).mono ?_
  rintro e w2 ⟨r, rfl, _, _, S2, g2⟩
  go_wp2_with fail
  refine (s_l05DrawNode _ _ _ S2).mono ?_
  rintro e w3 ⟨r3, rfl, _, _, S3, g3⟩
  go_wp2_with fail
  refine (s_l01Next _ _ 2 _ S3).mono ?_
  rintro e w4 ⟨r4, rfl, _, _, S4, g4⟩
  go_wp2
  go_ret3
  exact ⟨_, _, _, rfl, src_below hb (grown_trans' (grown_trans' g2 g3 (.inl rfl)) g4 (.inl rfl)) hg⟩
set_option maxHeartbeats 1000000 in
theorem s_DrawVectorOf (A : Option Addr) (n c : Nat) (bs : List Int) (B : Nat) (w : World) (h : BytesAt w B A n c bs) (hB : B ≤ w.heap.size) :
    Calls Try.prog 57 #[.slice A n c] w (DrewList w) := by
  go_enter Try.func57, Try.ntmps57
  go_wp2_with fail
  refine (s_l01From _ _ _ _ _ _ h hB).mono ?_
  rintro e w1 ⟨g, rfl, S1, hg, hb1⟩
  have l1 := S1.lt
  have z1 := hb1.size
  go_wp2_with fail
  refine (s_l01Next _ _ 6 _ (S1.alloc _)).mono ?_
  rintro e w2 ⟨r, rfl, h0, h1, S2, g2⟩
  have z2 := g2.size
  have o2 : IOwn w2 w1.heap.size (.slice (some ⟨w1.heap.size, 0, none⟩) 0 0) [] := (lit_own w1 [] _ (Nat.le_refl _) (by simp)).kept g2 (.inr (by simp [Value.ownBlock]; omega))
  have hb2 : Below w.heap.size w w2 := src_below (hb1.alloc z1 _) g2 hg
  simp at z2
  clear g2 S1 hb1
  go_wp2_with fail
  go_loopw [4, 5, 6] (fun v i u wr => ∃ (k : Int) (xs : List Int), 0 ≤ k ∧ k ≤ 6 ∧ i = .int .i64 k ∧ (xs.length : Int) + k ≤ 6 ∧ IOwn wr w1.heap.size v xs ∧ Src wr B g ∧ Below w.heap.size w wr ∧ w1.heap.size ≤ wr.heap.size) (fun _ i _ _ => (intOf i).toNat)
  case atStart => exact ⟨r, [], h0, by omega, rfl, by simp; omega, o2, S2, hb2, by omega⟩
  case round =>
    clear o2 S2 hb2
    obtain ⟨k, xs, hk0, hk1, rfl, hlen, hown, S3, hb3, z3⟩ := hrel
    by_cases hk : 0 < k
    · go_wp2_with fail
      refine (s_l05DrawNode _ _ _ S3).mono ?_
      rintro e w4 ⟨x, rfl, _, _, S4, g4⟩
      have z4 := g4.size
      have hnb : u4.ownBlock = none ∨ u4.ownBlock ≠ some g := by
        rcases hq : u4.ownBlock with _ | q
        · exact .inl rfl
        · refine .inr (fun e => ?_)
          have := (hown.lt q hq).1
          injection e with e
          omega
      have hown4 := hown.kept g4 hnb
      have hb4 := src_below hb3 g4 hg
      obtain ⟨A4, c4, rfl, h4⟩ := hown4.ints (by omega)
      clear hown hb3 S3 g4
      go_wp2_with fail
      refine (s_l01Has _ _ _ xs x _ _ h4).mono ?_
      rintro e w5 ⟨rfl, rfl⟩
      by_cases hh : hasL xs x = true
      · go_wp2_with fail
        refine (s_l01Next _ _ 8 _ S4).mono ?_
        rintro e w6 ⟨r6, rfl, _, _, S6, g6⟩
        have z6 := g6.size
        have hown6 := hown4.kept g6 hnb
        have hb6 := src_below hb4 g6 hg
        by_cases hr : r6 = 0
        · subst hr
          go_wp2_with (at_builtin; refine wpList_app _ rfl _ _ 22 rfl w1.heap.size Try.underlying22 int_info _ xs rfl (hown6.alloc _) _ _ 1 1 [x] rfl (lit_ints w6 [x] 2 (by simp)) (by omega) (by simp; omega) ?_; intro v' w' hown' hg' _)
          have hb' := app_below' hb6 (show w.heap.size ≤ w1.heap.size by omega) (by omega) hown6 hg'
          have S' := (S6.alloc (.cells #[.int .i64 x] 2)).kept hg' (own_ne hown6 (by omega)) (fun q hq => by have := (hown6.lt q hq).1; have := S6.1; omega)
          have z' := hg'.size
          simp at z'
          go_roundw
          case rel => exact ⟨k - 1, xs ++ [x], by omega, by omega, by go_num, by simp; omega, hown', S', hb', by omega⟩
          case measure => simp [intOf]; omega
        · have hr' : (r6 == 0) = false := by simpa using hr
          clear hr
          go_wp2
          go_roundw
          case rel => exact ⟨k - 1, xs, by omega, by omega, by go_num, by omega, hown6, S6, hb6, by omega⟩
          case measure => simp [intOf]; omega
      · have hh' : hasL xs x = false := by simpa using hh
        clear hh
        go_wp2_with (at_builtin; refine wpList_app _ rfl _ _ 22 rfl w1.heap.size Try.underlying22 int_info _ xs rfl (hown4.alloc _) _ _ 1 1 [x] rfl (lit_ints w4 [x] 2 (by simp)) (by omega) (by simp; omega) ?_; intro v' w' hown' hg' _)
        have hb' := app_below' hb4 (show w.heap.size ≤ w1.heap.size by omega) (by omega) hown4 hg'
        have S' := (S4.alloc (.cells #[.int .i64 x] 2)).kept hg' (own_ne hown4 (by omega)) (fun q hq => by have := (hown4.lt q hq).1; have := S4.1; omega)
        have z' := hg'.size
        simp at z'
        go_roundw
        case rel => exact ⟨k - 1, xs ++ [x], by omega, by omega, by go_num, by simp; omega, hown', S', hb', by omega⟩
        case measure => simp [intOf]; omega
    · go_wp2
      go_ret
      exact ⟨_, xs, rfl, by omega, hown.less (by omega), hb3⟩
/-- One element more, onto the list of a draw. -/
theorem list_push {wr w' : World} {base B g : Nat} {v : Value} {xs : List Int} {o : Obj} (hown : IOwn wr base v xs) (hg : (wr.alloc o).grownBy w' v.ownBlock) (S : Src wr B g) (hgb : g < base) (hB : B ≤ base) (hbase : base ≤ wr.heap.size) :
    Src w' B g ∧ wr.heap.size ≤ w'.heap.size := by
  have z := hg.size
  simp at z
  exact ⟨(S.alloc o).kept hg (own_ne hown hgb) (fun q hq => by have := (hown.lt q hq).1; omega), by omega⟩
def DrewL (B g : Nat) (w : World) (e : Ending) (w' : World) : Prop := ∃ (v : Value) (xs : List Int), e = .returned v ∧ xs.length ≤ 10000 ∧ IOwn w' w.heap.size v xs ∧ Src w' B g ∧ w.grownBy w' (some g)
set_option maxHeartbeats 1000000 in
theorem s_l05DrawList (g B : Nat) (w : World) (h : Src w B g) :
    Calls Try.prog 88 #[.pointer (some ⟨g, 0, none⟩)] w (DrewL B g w) := by
  have l0 := h.lt
  have hBg := h.1
  go_enter Try.func88, Try.ntmps88
  go_wp2_with fail
  refine (s_l01Next _ _ 1024 _ h).mono ?_
  rintro e w1 ⟨base, rfl, hb0, hb1, S1, g1⟩
  have z1 := g1.size
  go_wp2_with fail
  refine (s_l01Next _ _ 8 _ (S1.alloc _)).mono ?_
  rintro e w2 ⟨r, rfl, h0, h1, S2, g2⟩
  have z2 := g2.size
  simp at z2
  have o2 : IOwn w2 w.heap.size (.slice (some ⟨w1.heap.size, 0, none⟩) 0 0) [] := (lit_own w1 [] _ (by omega) (by simp)).kept g2 (.inr (by simp [Value.ownBlock]; omega))
  have G2 := grown_trans' (grown_alloc g1 (.cells #[] 2)) g2 (.inl rfl)
  clear g2 S1 g1
  go_wp2_with fail
  go_loopw [4, 5] (fun v i wr => ∃ (k : Int) (xs : List Int), 0 ≤ k ∧ k ≤ 8 ∧ i = .int .i64 k ∧ (xs.length : Int) + k ≤ 8 ∧ IOwn wr w.heap.size v xs ∧ Src wr B g ∧ w.grownBy wr (some g)) (fun _ i _ => (intOf i).toNat)
  case atStart => exact ⟨r, [], h0, by omega, rfl, by simp; omega, o2, S2, G2⟩
  case round =>
    clear o2 S2 G2
    obtain ⟨k, xs, hk0, hk1, rfl, hlen, hown, S3, G3⟩ := hrel
    have z3 := G3.size
    by_cases hk : 0 < k
    · go_wp2_with fail
      refine (s_l01Next _ _ 4 _ S3).mono ?_
      rintro e w4 ⟨x, rfl, x0, x1, S4, g4⟩
      have z4 := g4.size
      have hown4 := hown.kept g4 (.inr (own_ne hown (by omega)))
      have G4 := grown_trans' G3 g4 (.inl rfl)
      clear hown S3 g4 G3
      by_cases q0 : x = 0
      · subst q0
        go_wp2_with fail
        refine (s_l05Draw _ _ _ S4).mono ?_
        rintro e w5 ⟨y, rfl, _, _, S5, g5⟩
        have z5 := g5.size
        have hown5 := hown4.kept g5 (.inr (own_ne hown4 (by omega)))
        have G5 := grown_trans' G4 g5 (.inl rfl)
        clear hown4 S4 g5 G4
        go_wp2_with (at_builtin; refine wpList_app _ rfl _ _ 22 rfl w.heap.size Try.underlying22 int_info _ xs rfl (hown5.alloc _) _ _ 1 1 [y] rfl (lit_ints w5 [y] 2 (by simp)) (by omega) (by simp; omega) ?_; intro v' w' hown' hg' hor)
        obtain ⟨S', z'⟩ := list_push hown5 hg' S5 (by omega) (by omega) (by omega)
        have G' := grown_trans' (grown_alloc G5 _) hg' (.inr (fun q hq => (hown5.lt q hq).1))
        go_roundw
        case rel => exact ⟨k - 1, xs ++ [y], by omega, by omega, by go_num, by simp; omega, hown', S', G'⟩
        case measure => simp [intOf]; omega
      · have q0' : (x == 0) = false := by simpa using q0
        by_cases q1 : x = 1
        · subst q1
          clear q0 q0'
          go_wp2_with fail
          refine (s_l01Next _ _ 4 _ S4).mono ?_
          rintro e w5 ⟨y, rfl, _, _, S5, g5⟩
          have z5 := g5.size
          have hown5 := hown4.kept g5 (.inr (own_ne hown4 (by omega)))
          have G5 := grown_trans' G4 g5 (.inl rfl)
          clear hown4 S4 g5 G4
          go_wp2_with (at_builtin; refine wpList_app _ rfl _ _ 22 rfl w.heap.size Try.underlying22 int_info _ xs rfl (hown5.alloc _) _ _ 1 1 [bits .xor .i64 base y] rfl (lit_ints w5 [bits .xor .i64 base y] 2 (by simp)) (by omega) (by simp; omega) ?_; intro v' w' hown' hg' hor)
          obtain ⟨S', z'⟩ := list_push hown5 hg' S5 (by omega) (by omega) (by omega)
          have G' := grown_trans' (grown_alloc G5 _) hg' (.inr (fun q hq => (hown5.lt q hq).1))
          go_roundw
          case rel => exact ⟨k - 1, xs ++ [bits .xor .i64 base y], by omega, by omega, by go_num, by simp; omega, hown', S', G'⟩
          case measure => simp [intOf]; omega
        · have q1' : (x == 1) = false := by simpa using q1
          clear q0 q1
          go_wp2_with (at_builtin; refine wpList_app _ rfl _ _ 22 rfl w.heap.size Try.underlying22 int_info _ xs rfl (hown4.alloc _) _ _ 1 1 [base] rfl (lit_ints w4 [base] 2 (by simp)) (by omega) (by simp; omega) ?_; intro v' w' hown' hg' hor)
          obtain ⟨S', z'⟩ := list_push hown4 hg' S4 (by omega) (by omega) (by omega)
          have G' := grown_trans' (grown_alloc G4 _) hg' (.inr (fun q hq => (hown4.lt q hq).1))
          go_roundw
          case rel => exact ⟨k - 1, xs ++ [base], by omega, by omega, by go_num, by simp; omega, hown', S', G'⟩
          case measure => simp [intOf]; omega
    · go_wp2_with fail
      refine (s_l01Next _ _ 40 _ S3).mono ?_
      rintro e w4 ⟨x, rfl, _, _, S4, g4⟩
      have z4 := g4.size
      have hown4 := hown.kept g4 (.inr (own_ne hown (by omega)))
      have G4 := grown_trans' G3 g4 (.inl rfl)
      clear hown S3 g4 G3
      by_cases q0 : x = 0
      · subst q0
        go_wp2_with fail
        refine (s_l01Next _ _ 2 _ S4).mono ?_
        rintro e w5 ⟨y, rfl, y0, y1, S5, g5⟩
        have z5 := g5.size
        have G5 := grown_trans' G4 g5 (.inl rfl)
        obtain ⟨i0, hi, hz0, hz1, hz2⟩ := info_parts int_info
        have hyy : ∃ p : Nat, p ≤ 40 ∧ 32 + y = (p : Int) := ⟨(32 + y).toNat, by omega, by omega⟩
        obtain ⟨p, hp, hpe⟩ := hyy
        have Hpe := Lib.hid hpe
        have z0 : w.heap.size ≤ w5.heap.size := by omega
        clear G4 g5 hpe hown4
        go_wp2_with (at_make; rw [Hpe.out]; refine wpList_make_full _ rfl _ _ 22 rfl w.heap.size 2 i0 (.int .i64 0) 1 Try.underlying22 hi hz0 hz1 .i64 .i64 _ _ p rfl rfl rfl rfl ?c1 ?c2 ?c3 ?_)
        case c1 => rw [hz2]; omega
        case c2 => unfold maxLen; omega
        case c3 => exact z0
        intro w6 hown0 hg0
        have e0 : (madeCells #[Value.int IntKind.i64 0] p).toList = (List.replicate p (0:Int)).map (Value.int .i64) := by simp [toList_madeCells_one]
        have hown6 : IOwn w6 w.heap.size (.slice (some ⟨w5.heap.size, 0, none⟩) p p) (List.replicate p 0) := by
          unfold IOwn; rw [List.length_replicate, ← e0]; exact hown0
        have S6 := S5.kept hg0 (by simp) (by simp)
        have G6 := grown_trans' G5 hg0 (.inr (by simp))
        clear hown0 hg0 hi hz0 hz1 hz2 e0
        go_wp2
        go_ret
        exact ⟨_, _, rfl, by simp; omega, hown6, S6, G6⟩
      · have q0' : (x == 0) = false := by simpa using q0
        clear q0
        go_wp2
        go_ret
        exact ⟨_, xs, rfl, by omega, hown4, S4, G4⟩
theorem s_DrawAgreedMembers (A : Option Addr) (n c : Nat) (bs : List Int) (B : Nat) (w : World) (h : BytesAt w B A n c bs) (hB : B ≤ w.heap.size) :
    Calls Try.prog 47 #[.slice A n c] w (DrewList w) := by
  go_enter Try.func47, Try.ntmps47
  go_wp2_with fail
  refine (s_l01From _ _ _ _ _ _ h hB).mono ?_
  rintro e w1 ⟨g, rfl, S1, hg, hb⟩
  have z1 := hb.size
  go_wp2_with fail
  refine (s_l05DrawList _ _ _ S1).mono ?_
  rintro e w2 ⟨v, xs, rfl, hl, o2, S2, g2⟩
  go_wp2
  go_ret
  exact ⟨_, xs, rfl, hl, o2.less z1, src_below hb g2 hg⟩
def DrewListInt (w : World) (e : Ending) (w' : World) : Prop := ∃ (v : Value) (xs : List Int) (r : Int), e = .returned (.tuple #[v, .int .i64 r]) ∧ xs.length ≤ 10000 ∧ IOwn w' w.heap.size v xs ∧ Below w.heap.size w w'
theorem s_DrawCliqueOf (A : Option Addr) (n c : Nat) (bs : List Int) (B : Nat) (w : World) (h : BytesAt w B A n c bs) (hB : B ≤ w.heap.size) :
    Calls Try.prog 40 #[.slice A n c] w (DrewListInt w) := by
  go_enter Try.func40, Try.ntmps40
  go_wp2_with fail
  refine (s_l01From _ _ _ _ _ _ h hB).mono ?_
  rintro e w1 ⟨g, rfl, S1, hg, hb⟩
  have z1 := hb.size
  go_wp2_with fail
  refine (s_l05DrawList _ _ _ S1).mono ?_
  rintro e w2 ⟨v, xs, rfl, hl, o2, S2, g2⟩
  obtain ⟨A2, c2, rfl, h2⟩ := o2.ints (by omega)
  have l1 := S1.lt
  have hne := own_ne o2 l1
  go_wp2_with fail
  refine (s_l01Next _ _ _ _ S2).mono ?_
  rintro e w3 ⟨r3, rfl, _, _, S3, g3⟩
  go_wp2_with fail
  refine (s_l01Next _ _ 16 _ S3).mono ?_
  rintro e w4 ⟨r4, rfl, _, _, S4, g4⟩
  have G := grown_trans' g3 g4 (.inl rfl)
  go_wp2
  go_ret2
  exact ⟨_, xs, _, rfl, hl, (o2.less z1).kept G (.inr hne), src_below hb (grown_trans' g2 G (.inl rfl)) hg⟩
end Go.Proofs.Ytjheanonklgbcaa

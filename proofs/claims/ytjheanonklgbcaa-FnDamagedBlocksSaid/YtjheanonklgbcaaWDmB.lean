/- The walk of the law on wrong bits in a block. -/
import Derived.Test.YtjheanonklgbcaaPDmg
import Derived.Test.YtjheanonklgbcaaWImages
import Derived.Test.YtjheanonklgbcaaDice
import Derived.Deep.RegionHeld3
import Derived.BigRegion
namespace Go.Proofs.Ytjheanonklgbcaa
open Go.RowKit
set_option linter.unusedSimpArgs false
set_option linter.unusedVariables false
theorem s_DrawBlockOfByte (A : Option Addr) (n c : Nat) (bs : List Int) (B : Nat) (w : World) (h : BytesAt w B A n c bs) (hB : B ≤ w.heap.size) :
    Calls Try.prog 30 #[.slice A n c] w fun e w' => ∃ (m : Nat) (a : Int), e = .returned (.tuple #[.int .i64 (m : Int), .int .i64 a]) ∧ m < 200 ∧ -1 ≤ a ∧ a ≤ 300 ∧ Below w.heap.size w w' := by
  go_enter Try.func30, Try.ntmps30
  go_wp2_with fail
  refine (s_l01From _ _ _ _ B _ h hB).mono ?_
  rintro e w1 ⟨g, rfl, S1, hg, hb⟩
  clear h
  go_wp2_with fail
  refine (s_l01Next g B 200 _ S1).mono ?_
  rintro e w2 ⟨m0, rfl, m1, m2, S2, g2⟩
  have B2 := hb.trans (grown_below g2 hb.size (fun q hq => by injection hq with hq; omega))
  obtain ⟨m, rfl⟩ := nat_of' m0 m1
  have m3 : (m : Int) < 200 := by omega
  clear S1 g2 hb m2
  go_wp2_with fail
  refine (s_l01Next g B _ _ S2).mono ?_
  rintro e w3 ⟨a, rfl, a1, a2, S3, g3⟩
  have B3 := B2.trans (grown_below g3 B2.size (fun q hq => by injection hq with hq; omega))
  clear S2 g3 B2
  go_wp2_with fail
  refine (s_l01Next g B 20 _ S3).mono ?_
  rintro e w4 ⟨d, rfl, d1, d2, S4, g4⟩
  have B4 := B3.trans (grown_below g4 B3.size (fun q hq => by injection hq with hq; omega))
  clear S3 S4 g4 B3
  have hq1 : 0 ≤ d / 19 := by omega
  have hq2 : d / 19 ≤ 1 := by omega
  have ha : a ≤ 202 := by omega
  clear d2 a2
  go_wp2
  go_ret2
  exact ⟨m, a - d / 19, rfl, by omega, by omega, by omega, B4⟩
def bobC (n : Nat) (a : Int) : Int := if 0 ≤ a ∧ a < n then 0 else 2
def bobV (n : Nat) (a : Int) : Int := if 0 ≤ a ∧ a < n then a / 28 else 0
theorem i_BlockOfByte (n : Nat) (a : Int) (w : World) (hn : n ≤ 868) (h1 : -1 ≤ a) (h2 : a ≤ 300) :
    Calls Try.prog 31 #[.int .i64 (n : Int), .int .i64 a] w fun e w' => e = .returned (.tuple #[.int .i64 (bobV n a), .int .i64 (bobC n a)]) ∧ w = w' := by
  have hn' : (n : Int) ≤ 868 := by omega
  have HZ := Lib.hid (fun W => i_ImageSize n W hn)
  by_cases h : 0 ≤ a ∧ a < n
  · have e1 : bobC n a = 0 := by unfold bobC; rw [if_pos h]
    have e2 : bobV n a = a / 28 := by unfold bobV; rw [if_pos h]
    rw [e1, e2]
    obtain ⟨h3, h4⟩ := h
    clear e1 e2
    go_enter Try.func31, Try.ntmps31
    go_wp2_with (first | (go_at_call 29; refine (HZ.out _).mono ?_; rintro e w' ⟨rfl, rfl⟩) | (go_at_call 65; first | (refine (i_within_yes _ _ _ _ ?_ ?_).mono ?_; omega; omega; rintro e w' ⟨rfl, rfl⟩) | (refine (i_within_no _ _ _ _ ?_).mono ?_; omega; rintro e w' ⟨rfl, rfl⟩)))
    go_ret2
    exact ⟨rfl, rfl⟩
  · have e1 : bobC n a = 2 := by unfold bobC; rw [if_neg h]
    have e2 : bobV n a = 0 := by unfold bobV; rw [if_neg h]
    rw [e1, e2]
    have h3 : a < 0 ∨ (n : Int) - 1 < a := by omega
    clear e1 e2 h
    go_enter Try.func31, Try.ntmps31
    go_wp2_with (first | (go_at_call 29; refine (HZ.out _).mono ?_; rintro e w' ⟨rfl, rfl⟩) | (go_at_call 65; refine (i_within_no _ _ _ _ h3).mono ?_; rintro e w' ⟨rfl, rfl⟩))
    go_ret2
    exact ⟨rfl, rfl⟩
theorem s_BlockOfByte (n : Nat) (a : Int) (w : World) (hn : n ≤ 868) (h1 : -1 ≤ a) (h2 : a ≤ 300) :
    Calls Try.prog 32 #[.int .i64 (n : Int), .int .i64 a] w fun e w' => e = .returned (.tuple #[.int .i64 (bobV n a), .int .i64 (bobC n a)]) ∧ w = w' := by
  have hn' : (n : Int) ≤ 868 := by omega
  by_cases h : 0 ≤ a ∧ a < n
  · have e1 : bobC n a = 0 := by unfold bobC; rw [if_pos h]
    have e2 : bobV n a = a / 28 := by unfold bobV; rw [if_pos h]
    rw [e1, e2]
    obtain ⟨h3, h4⟩ := h
    clear e1 e2
    go_enter Try.func32, Try.ntmps32
    go_wp2_with (first | (go_at_call 67; refine (s_l09Fits_yes _ _ (by omega) hn').mono ?_; rintro e w' ⟨rfl, rfl⟩) | (go_at_call 60; first | (refine (s_l01In_yes _ _ _ _ ?_ ?_).mono ?_; omega; omega; rintro e w' ⟨rfl, rfl⟩) | (refine (s_l01In_no _ _ _ _ ?_).mono ?_; omega; rintro e w' ⟨rfl, rfl⟩)))
    go_ret2
    exact ⟨rfl, rfl⟩
  · have e1 : bobC n a = 2 := by unfold bobC; rw [if_neg h]
    have e2 : bobV n a = 0 := by unfold bobV; rw [if_neg h]
    rw [e1, e2]
    have h3 : a < 0 ∨ (n : Int) - 1 < a := by omega
    clear e1 e2 h
    go_enter Try.func32, Try.ntmps32
    go_wp2_with (first | (go_at_call 67; refine (s_l09Fits_yes _ _ (by omega) hn').mono ?_; rintro e w' ⟨rfl, rfl⟩) | (go_at_call 60; refine (s_l01In_no _ _ _ _ h3).mono ?_; rintro e w' ⟨rfl, rfl⟩))
    go_ret2
    exact ⟨rfl, rfl⟩
/-- While wrong bits are made: the wrong list, the image, its block twice, the dice. -/
structure DB (w : World) (g ob N cp : Nat) (b6 bI bB bO : Nat) (vI vB vO : Value) (I Y W : List Int) (X : World) : Prop where
  wr : IOwn X b6 (.slice (some ⟨ob, 0, none⟩) N cp) W
  img : IOwn X bI vI I
  blk : IOwn X bB vB Y
  own : IOwn X bO vO Y
  dice : Dice X w.heap.size g
  bel : Below w.heap.size w X
section
variable {w X X' : World} {g ob N cp b6 bI bB bO : Nat} {vI vB vO : Value} {I Y W : List Int}
theorem own_ne'' {w : World} {base g : Nat} {v : Value} {xs : List Int} (h : IOwn w base v xs) (hg : g < base) : v.ownBlock ≠ some g := fun e => by have := (h.lt g e).1; omega
theorem IOwn.setX {w : World} {base : Nat} {v : Value} {xs : List Int} (h : IOwn w base v xs) {g k : Nat} (hg : v.ownBlock ≠ some g) (u : Value) : IOwn (w.setCell ⟨g, k, none⟩ u) base v xs := ownsRow_setCell_other h hg u
theorem DB.next (h : DB w g ob N cp b6 bI bB bO vI vB vO I Y W X) (h1 : g < b6) (h2 : g < bI) (h3 : g < bB) (h4 : g < bO) (h5 : w.heap.size ≤ g) (D' : Dice X' w.heap.size g) (g' : X.grownBy X' (some g)) : DB w g ob N cp b6 bI bB bO vI vB vO I Y W X' :=
  ⟨h.wr.kept g' (.inr (own_ne'' h.wr h1)), h.img.kept g' (.inr (own_ne'' h.img h2)), h.blk.kept g' (.inr (own_ne'' h.blk h3)), h.own.kept g' (.inr (own_ne'' h.own h4)), D', h.bel.trans (grown_below g' h.bel.size (fun q hq => by injection hq with hq; omega))⟩
theorem DB.drewN (h : DB w g ob N cp b6 bI bB bO vI vB vO I Y W X) (k : Nat) : DB w g ob N cp b6 bI bB bO vI vB vO I Y W (X.drewN k) :=
  ⟨h.wr, h.img, h.blk, h.own, h.dice, below_drewN h.bel k⟩
theorem DB.drew (h : DB w g ob N cp b6 bI bB bO vI vB vO I Y W X) : DB w g ob N cp b6 bI bB bO vI vB vO I Y W X.drew :=
  ⟨h.wr, h.img, h.blk, h.own, h.dice, below_drewN h.bel 1⟩
theorem DB.cell (h : DB w g ob N cp b6 bI bB bO vI vB vO I Y W X) {p : Nat} (hp : p < W.length) : X.cell? ⟨ob, p, none⟩ = some (.int .i64 (W.getD p 0)) ∧ X.frozen? ⟨ob, p, none⟩ = false := by
  obtain ⟨A', c', e, -⟩ := h.wr.form
  injection e with e1 e2 e3
  subst e2
  have hw : X.ownsRow b6 2 1 (.slice (some ⟨ob, 0, none⟩) W.length cp) W.length (W.map (Value.int .i64)) := h.wr
  refine ⟨?_, hw.frozenAt p⟩
  rw [hw.cellAt p (by simpa using hp), List.getElem?_map, List.getElem?_eq_getElem hp]
  simp [List.getD_eq_getElem?_getD, List.getElem?_eq_getElem hp]
theorem DB.cellY {y : Int} (h : DB w g ob N cp b6 bI bB bO vI vB vO I Y W X) {p : Nat} (hp : p < W.length) (hy : Hid (W.getD p 0 = y)) : X.cell? ⟨ob, p, none⟩ = some (.int .i64 y) ∧ X.frozen? ⟨ob, p, none⟩ = false := by
  have := h.cell hp; rw [hy.out] at this; exact this
theorem DB.ints (h : DB w g ob N cp b6 bI bB bO vI vB vO I Y W X) (hs : W.length ≤ 16777216) : IntsAt X X.heap.size (some ⟨ob, 0, none⟩) N cp W := by
  obtain ⟨A', c', e, -⟩ := h.wr.form
  injection e with e1 e2 e3
  subst e2
  exact h.wr.intsO hs
theorem flip_val (y u s : Int) (hy : 0 ≤ y ∧ y ≤ 255) (u1 : 0 ≤ u) (u2 : u < 2) (s1 : 0 ≤ s) (s2 : s < 8) :
    (0 ≤ bits BinOp.xor IntKind.i64 y (IntKind.i64.wrap (u * 2 ^ min (IntKind.u64.wrap s).toNat 64)) ∧ bits BinOp.xor IntKind.i64 y (IntKind.i64.wrap (u * 2 ^ min (IntKind.u64.wrap s).toNat 64)) ≤ 255) ∧
    ((bits BinOp.xor IntKind.i64 y (IntKind.i64.wrap (u * 2 ^ min (IntKind.u64.wrap s).toNat 64))).toNat = y.toNat ∨ ∃ t, t < 8 ∧ (bits BinOp.xor IntKind.i64 y (IntKind.i64.wrap (u * 2 ^ min (IntKind.u64.wrap s).toNat 64))).toNat = y.toNat ^^^ 2 ^ t) := by
  obtain ⟨t, rfl⟩ : ∃ t : Nat, s = t := ⟨s.toNat, by omega⟩
  obtain ⟨b, rfl⟩ : ∃ b : Nat, y = b := ⟨y.toNat, by omega⟩
  have ht : t < 8 := by omega
  have hb : b < 256 := by omega
  have e1 : min (IntKind.u64.wrap (t : Int)).toNat 64 = t := by rw [IntKind.wrap_u64]; omega
  have h2 : 2 ^ t < 2 ^ 8 := Nat.pow_lt_pow_right (by omega) ht
  have h3 : b ^^^ 2 ^ t < 2 ^ 8 := Nat.xor_lt_two_pow (by omega) h2
  rw [e1]
  rcases (by omega : u = 0 ∨ u = 1) with rfl | rfl
  · have e2 : IntKind.i64.wrap (0 * 2 ^ t) = ((0 : Nat) : Int) := by rw [Int.zero_mul]; rfl
    rw [e2, xor_nat b 0 (by omega) (by omega), Nat.xor_zero]
    exact ⟨by omega, .inl rfl⟩
  · have e2 : IntKind.i64.wrap (1 * 2 ^ t) = ((2 ^ t : Nat) : Int) := by
      rw [Int.one_mul, IntKind.wrap_i64]
      have : (2 : Int) ^ t = ((2 ^ t : Nat) : Int) := by simp
      rw [this]
      generalize (2 : Nat) ^ t = z at *
      omega
    rw [e2, xor_nat b (2 ^ t) (by omega) (by omega)]
    exact ⟨by omega, .inr ⟨t, ht, by simp⟩⟩
theorem eqL_ne {xs ys : List Int} (h : xs ≠ ys) : eqL xs ys = false := by simp [eqL, h]
theorem DB.store (h : DB w g ob N cp b6 bI bB bO vI vB vO I Y W X) {p : Nat} {v : Int} (hg : g < b6) (hw6 : w.heap.size ≤ b6) (h2 : vI.ownBlock ≠ some ob) (h3 : vB.ownBlock ≠ some ob) (h4 : vO.ownBlock ≠ some ob) : DB w g ob N cp b6 bI bB bO vI vB vO I Y (W.set p v) (X.setCell ⟨ob, p, none⟩ (.int .i64 v)) := by
  obtain ⟨A', c', e, -⟩ := h.wr.form
  injection e with e1 e2 e3
  subst e2
  have hw : X.ownsRow b6 2 1 (.slice (some ⟨ob, 0, none⟩) W.length cp) W.length (W.map (Value.int .i64)) := h.wr
  obtain ⟨ho1, ho2⟩ := h.wr.lt ob rfl
  have hnew := (hw.stored p (.int .i64 v)).1
  rw [← List.map_set] at hnew
  refine ⟨?_, IOwn.setX h.img h2 _, IOwn.setX h.blk h3 _, IOwn.setX h.own h4 _, ?_, h.bel.setCell (p := ⟨ob, p, none⟩) (by show w.heap.size ≤ ob; omega) _⟩
  · unfold IOwn; rw [List.length_set]; exact hnew
  · exact h.dice.kept (row := some ob) (grown_set (World.grownBy.refl _ _) (.inl rfl) _) (fun e => by injection e with e; omega) (fun k hk => by injection hk with hk; omega)
end
set_option maxHeartbeats 8000000 in
theorem w_FnDamagedBlocks (a0 : Option Addr) (len0 cap0 : Nat) (z0 : List Int) (w : World) (w0 : ArgBytes w a0 len0 cap0 z0) :
    Calls Try.prog 8 #[.slice a0 len0 cap0] w fun e w' => e = .returned (.bool true) ∧ Below w.heap.size w w' := by
  by_cases hbig : 4096 < len0
  · clear w0
    have hb : decide ((4096 : Int) < len0) = true := by simp; omega
    go_enter Try.func8, Try.ntmps8
    go_wp2_with (go_at_call 26; refine (h_big _ _ _ _).mono ?_; rintro e w' ⟨rfl, rfl⟩)
    go_ret
    exact ⟨rfl, Below.refl _ _⟩
  · have hI := w0.2.2 (by omega)
    have hb : decide ((4096 : Int) < len0) = false := by simp; omega
    clear w0
    go_enter Try.func8, Try.ntmps8
    go_wp2_with (go_at_call 26; refine (h_big _ _ _ _).mono ?_; rintro e w' ⟨rfl, rfl⟩)
    refine (s_DrawBlockOfByte _ _ _ _ _ _ hI (Nat.le_refl _)).mono ?_
    rintro e w1 ⟨n, a, rfl, hn, ha1, ha2, B1⟩
    clear hb hbig
    have z1 := B1.size
    have HI := Lib.hid (fun W => i_BlockOfByte n a W (by omega) ha1 ha2)
    have HS := Lib.hid (fun W => s_BlockOfByte n a W (by omega) ha1 ha2)
    by_cases hab : 0 ≤ a ∧ a < n
    · have e1 : bobC n a = 0 := by unfold bobC; rw [if_pos hab]
      obtain ⟨k0, hk0⟩ : ∃ k0 : Nat, a / 28 = (k0 : Int) := ⟨(a / 28).toNat, by omega⟩
      have e2 : bobV n a = (k0 : Int) := by unfold bobV; rw [if_pos hab, hk0]
      have hk28 : k0 < cutN 28 n := by unfold cutN; rw [if_neg (by omega)]; omega
      have hk8 : (k0 : Int) ≤ 8 := by omega
      have hn2 : (n : Int) < 200 := by omega
      rw [e1, e2] at HI HS
      have HK := Lib.hid hk28
      clear e1 e2 hk0 hab ha1 ha2 hk28
      go_wp2_with (first | (go_at_call 31; refine (HI.out _).mono ?_; rintro e w' ⟨rfl, rfl⟩) | (go_at_call 32; refine (HS.out _).mono ?_; rintro e w' ⟨rfl, rfl⟩))
      refine (h_roll a0 len0 cap0 z0 901 w.heap.size _ (hI.below B1) z1).mono ?_
      rintro e w2 ⟨g, rfl, DD, hg, b2⟩
      have z2 := b2.size
      have B2 := B1.trans (b2.mono z1)
      have yg := DD.lt
      have o2 := lit_own w2 [] w2.heap.size (Nat.le_refl _) (by simp)
      have B2' := B2.alloc (by omega) (.cells #[] 2)
      have D2' := DD.below ((Below.refl _ _).alloc (Nat.le_refl _) (.cells #[] 2))
      have hgw : w.heap.size ≤ g := by omega
      clear hI HI HS B1 b2 B2 DD
      go_wp2_with fail
      go_loopw [10, 11] (fun v i wr => ∃ j : Nat, j ≤ n ∧ i = .int .i64 j ∧ ∃ D : List Int, Hid (D.length = j ∧ ∀ x ∈ D, 0 ≤ x ∧ x ≤ 255) ∧ IOwn wr w2.heap.size v D ∧ Dice wr w.heap.size g ∧ Below w.heap.size w wr ∧ w2.heap.size ≤ wr.heap.size) (fun _ i _ => n - (intOf i).toNat)
      case atStart => exact ⟨0, by omega, rfl, [], Lib.hid ⟨rfl, fun x hx => by cases hx⟩, o2, D2', B2', by rw [World.size_alloc]; omega⟩
      case round =>
        clear o2 B2' D2'
        obtain ⟨j, hj, rfl, D, HD, O, DD, BW, zr⟩ := hrel
        have zw := BW.size
        by_cases hlt : j < n
        · have hj1 : (j : Int) < (n : Int) := by omega
          go_wp2_with fail
          refine (h_below g w.heap.size 256 _ DD (by omega)).mono ?_
          rintro e w3 ⟨r, rfl, r0, r1, D3, g3⟩
          have O3 := O.kept g3 (.inr (own_ne'' O (by omega)))
          have B3 := BW.trans (grown_below g3 zw (fun q hq => by injection hq with hq; omega))
          have z3 := g3.size
          have z32 : w2.heap.size ≤ w3.heap.size := Nat.le_trans zr z3
          have HD2 := Lib.hid (show (D ++ [r]).length = j + 1 ∧ ∀ x ∈ D ++ [r], 0 ≤ x ∧ x ≤ 255 from by
            obtain ⟨h1, h2⟩ := HD.out
            refine ⟨by simp [h1], fun x hx => ?_⟩
            rcases List.mem_append.1 hx with hx | hx
            · exact h2 x hx
            · simp at hx; omega)
          have hO2 := O3.lt
          clear DD O BW g3
          go_wp2_with (at_builtin; refine wpList_app _ rfl _ _ 22 rfl w2.heap.size Try.underlying22 int_info _ D rfl (O3.alloc _) _ _ 1 1 [r] rfl (lit_ints w3 [r] 2 (by simp)) (by have := HD.out.1; omega) (by rw [World.size_alloc]; omega) ?_; intro v4 w4 O4 g4 hb4; have D4 := (D3.below ((Below.refl _ _).alloc (Nat.le_refl _) _)).kept g4 (own_ne'' O3 (by omega)) (fun k hk => by have := (hO2 k hk).1; omega); have B4 := (B3.alloc B3.size _).grown g4 (by have := B3.size; rw [World.size_alloc]; omega) (fun k hk => by have := (hO2 k hk).1; omega))
          have z4 : w2.heap.size ≤ w4.heap.size := by have := g4.size; rw [World.size_alloc] at this; omega
          clear g4 hb4 O3 D3 B3 hO2
          go_wp2
          go_roundw
          case rel => exact ⟨j + 1, by omega, by go_num, D ++ [r], HD2, O4, D4, B4, z4⟩
          case measure => simp [intOf]; omega
        · have hjn : j = n := by omega
          obtain ⟨hDl, hDm⟩ := HD.out
          rw [hjn] at hDl
          have hji : (n : Int) ≤ (j : Int) := by omega
          have hIC : imC D = 0 := by
            have hbD : bytesOk D = true := by
              simp only [bytesOk, Bool.and_eq_true, decide_eq_true_eq]
              exact ⟨by omega, (allIn_iff _ 0 255).2 fun i hi => getD_mem hDm i hi⟩
            simp only [imC, hbD, if_true]; rw [if_pos (by omega)]
          have HW := Lib.hid (fun (W : List Int) (h : PW (imR D) W k0 3) (hne : W ≠ imR D) => dmg_block hIC (by rw [hDl]; exact HK.out) h hne)
          have hlen := (img_all hIC).2.2.2.2.1
          have HI0 := Lib.hid (img_all hIC).2.2.1
          have hc28 := cut28_le D.length (by omega)
          have hbI := bytesOk_img hIC
          have hmI := byt_all hbI
          have hcut : 33 * k0 < (imR D).length := by
            have h1 := HK.out
            rw [← hDl] at h1
            obtain ⟨c1, c2, c3⟩ := cutN28 h1
            omega
          have HmI := Lib.hid hmI
          have hNl : (imR D).length ≤ 1100 := by omega
          have HPW := Lib.hid (PW.start (k0 := k0) hmI)
          have hba : baC (imR D) (k0 : Int) = 0 := by simp only [baC, hbI, if_true]; rw [if_pos (by omega)]
          have hbl : baL (imR D) (k0 : Int) = cutL 33 (imR D) k0 := by simp [baL, hba]
          have hcl := cutL_len 33 (imR D) k0
          have hsm : D.length ≤ 16777216 := by omega
          obtain ⟨Ad, cd, rfl, Id⟩ := O.ints hsm
          rw [hDl] at Id
          simp only [hDl]
          have HIM := Lib.hid (s_ImageOf Ad n cd D _ wr Id (Nat.le_refl _))
          clear hjn HK hlen hc28 hbI hmI HD hDm Id hsm hIC
          replace hba := Lib.hid hba
          replace hbl := Lib.hid hbl
          clear hDl
          generalize imC D = CC at *
          generalize imR D = I at *
          have hcl' : (cutL 33 I k0).length ≤ 33 := by omega
          have hclp : 0 < (cutL 33 I k0).length := by omega
          have hcc : 33 * k0 + (cutL 33 I k0).length ≤ I.length := by omega
          clear hcl
          generalize hYY : cutL 33 I k0 = Y at *
          clear hYY
          have hez := Lib.hid (eqL_refl Y)
          clear O hcut
          go_wp2_with fail
          refine HIM.out.mono ?_
          rintro e w5 ⟨uI, rfl, OI, b5⟩
          have z5 := b5.size
          replace DD := DD.below b5
          replace BW := BW.trans (b5.mono zw)
          have yg2 : g < wr.heap.size := by omega
          obtain ⟨AI, cI, rfl, II⟩ := OI.ints (by omega)
          have HS1 := Lib.hid (s_BlockAt AI I.length cI I (k0:Int) _ w5 II (Nat.le_refl _))
          rw [hba.out, hbl.out] at HS1
          clear HIM b5
          go_wp2_with fail
          refine HS1.out.mono ?_
          rintro e w6 ⟨uB, rfl, OB, b6⟩
          have z6 := b6.size
          have II6 := II.below b6
          replace OI := OI.below_ b6
          replace DD := DD.below b6
          replace BW := BW.trans (b6.mono (by omega))
          have HS2 := Lib.hid (i_BlockAt AI I.length cI I (k0:Int) _ w6 II6 (by omega))
          rw [hba.out, hbl.out] at HS2
          obtain ⟨AB, cB, rfl, -, -, -⟩ := OB.form
          clear II HS1 b6
          go_wp2_with fail
          refine HS2.out.mono ?_
          rintro e w7 ⟨uO, rfl, OO, b7⟩
          have z7 := b7.size
          have II7 := II6.below' (by omega) b7
          replace OI := OI.below_ b7
          replace OB := OB.below_ b7
          replace DD := DD.below b7
          replace BW := BW.trans (b7.mono (by omega))
          obtain ⟨AO, cO, rfl, -, -, -⟩ := OO.form
          clear II6 HS2 b7
          go_wp2_with (at_builtin; refine wpList_app _ rfl _ _ 22 rfl w7.heap.size Try.underlying22 int_info _ [] rfl (lit_own w7 [] _ (Nat.le_refl _) (by simp)) _ _ _ _ I rfl (II7.alloc (by omega) _) (by simp <;> omega) (by simp) ?_; intro v8 w8 O8 g8 _)
          have b8 : Below w7.heap.size w7 w8 := ((Below.refl _ _).alloc (Nat.le_refl _) _).grown g8 (by simp) (fun k hk => ((lit_own w7 [] _ (Nat.le_refl _) (by simp)).lt k hk).1)
          rw [List.nil_append] at O8
          have z8 := b8.size
          have nI := OI.lt
          have nB := OB.lt
          have nO := OO.lt
          replace OI := OI.below_ b8
          replace OB := OB.below_ b8
          replace OO := OO.below_ b8
          replace DD := DD.below b8
          replace BW := BW.trans (b8.mono (by omega))
          obtain ⟨A8, c8, rfl, -, -, hA8⟩ := O8.form
          obtain ⟨ob, rfl, ho1, ho2⟩ : ∃ ob, A8 = some ⟨ob, 0, none⟩ ∧ w7.heap.size ≤ ob ∧ ob < w8.heap.size := by
            rcases hA8 with ⟨_, h0, _⟩ | h
            · have := congrArg List.length h0; simp only [List.length_nil] at this; omega
            · exact h
          have mI : (Value.slice AI I.length cI).ownBlock ≠ some ob := fun e => by have := (nI ob e).2; omega
          have mB : (Value.slice AB Y.length cB).ownBlock ≠ some ob := fun e => by have := (nB ob e).2; omega
          have mO : (Value.slice AO Y.length cO).ownBlock ≠ some ob := fun e => by have := (nO ob e).2; omega
          have HH : DB w g ob I.length c8 w7.heap.size wr.heap.size w5.heap.size w6.heap.size (.slice AI I.length cI) (.slice AB Y.length cB) (.slice AO Y.length cO) I Y I w8 := ⟨O8, OI, OB, OO, DD, BW⟩
          clear nI nB nO O8 OI OB OO DD BW II7 b8 g8 hA8 hba hbl
          go_wp2_with fail
          go_loopw [19, 20] (fun i _ wX => ∃ q : Nat, q ≤ 3 ∧ i = .int .i64 q ∧ ∃ W, Hid (PW I W k0 q) ∧ DB w g ob I.length c8 w7.heap.size wr.heap.size w5.heap.size w6.heap.size (.slice AI I.length cI) (.slice AB Y.length cB) (.slice AO Y.length cO) I Y W wX) (fun i _ _ => 3 - (intOf i).toNat)
          case atStart => exact ⟨0, by omega, rfl, I, HPW, HH⟩
          case round =>
            clear HH
            obtain ⟨q, hq, rfl, W, HP, H⟩ := hrel
            have hWl : W.length = I.length := HP.out.1
            by_cases hlt3 : q < 3
            · have hq1 : (q : Int) < 3 := by omega
              go_wp2_with fail
              refine (h_below g w.heap.size (Y.length : Int) _ H.dice (by omega)).mono ?_
              rintro e w9 ⟨r0, rfl, r1, r2, D9, g9⟩
              obtain ⟨r, rfl⟩ := nat_of' r0 r1
              have H9 := H.next (by omega) (by omega) (by omega) (by omega) (by omega) D9 g9
              have hr33 : (r : Int) < 33 := by omega
              obtain ⟨p, hp⟩ : ∃ p : Nat, (k0 : Int) * 33 + (r : Int) = (p : Int) := ⟨k0 * 33 + r, by omega⟩
              have hpI : p < I.length := by omega
              have hpI' : (p : Int) < (I.length : Int) := by omega
              have hp1 : 33 * k0 ≤ p := by omega
              have hp2 : p < 33 * k0 + 33 := by omega
              clear D9 g9 H r1
              go_wp2_with fail
              obtain ⟨y, hy⟩ : ∃ y, W.getD p 0 = y := ⟨_, rfl⟩
              replace hy := Lib.hid hy
              obtain ⟨c9, f9⟩ := DB.cellY H9 (p := p) (by omega) hy
              have H9d := H9.drewN 1
              have H9e := H9.drew
              have hp0 : (0 : Int) ≤ (p : Int) := by omega
              clear hp
              go_region_with (first
                | (go_at_call 34; have chk := H10; clear chk; refine (h_below g w.heap.size 8 _ (by with_reducible exact H10.dice) (by omega)).mono ?_; rintro e w11 ⟨s0, rfl, s1, s2, D11, g11⟩; have H11 := DB.next H10 (by omega) (by omega) (by omega) (by omega) (by omega) D11 g11; obtain ⟨c11, f11⟩ := DB.cellY H11 (p := p) (by omega) hy)
                | (go_at_call 34; refine (h_below g w.heap.size 2 _ (by first | with_reducible exact H9.dice | with_reducible exact H9d.dice | with_reducible exact H9e.dice) (by omega)).mono ?_; rintro e w10 ⟨u0, rfl, u1, u2, D10, g10⟩; have H10 := DB.next (by first | with_reducible exact H9d | with_reducible exact H9e | with_reducible exact H9) (by omega) (by omega) (by omega) (by omega) (by omega) D10 g10; obtain ⟨c10, f10⟩ := DB.cellY H10 (p := p) (by omega) hy))
              all_goals (
                have hyb : 0 ≤ y ∧ y ≤ 255 := by rw [← hy.out]; exact getD_mem HP.out.2.1 p (by omega)
                have HV := flip_val y u0 s0 hyb u1 u2 s1 s2
                have HP2 := Lib.hid (PW.set HP.out HmI.out hp1 hp2 (by omega) HV.1 (by rw [hy.out]; exact HV.2))
                have HS := DB.store H11 (p := p) (v := bits BinOp.xor IntKind.i64 y (IntKind.i64.wrap (u0 * 2 ^ min (IntKind.u64.wrap s0).toNat 64))) (by omega) (by omega) mI mB mO
                clear HV H9 H9d H9e H10 H11 c9 c10 c11 f9 f10 f11 D10 D11 g10 g11 hyb
                generalize bits BinOp.xor IntKind.i64 y (IntKind.i64.wrap (u0 * 2 ^ min (IntKind.u64.wrap s0).toNat 64)) = vv at *
                generalize w11.setCell _ _ = wz at *
                go_wp2
                go_roundw
                case rel => exact ⟨q + 1, by omega, by go_num, W.set p vv, HP2, HS⟩
                case measure => simp [intOf]; omega)
            · have hdq : decide ((q : Int) < 3) = false := by simp; omega
              have HP3 := Lib.hid (show PW I W k0 3 from by have := HP.out; rw [show q = 3 by omega] at this; exact this)
              have IW := H.ints (by omega)
              have IO := H.own.intsO (by omega)
              have IB := H.blk.intsO (by omega)
              have II := H.img.intsO (by omega)
              have BX := H.bel
              have zX := BX.size
              have HDM := Lib.hid (i_DamagedBlocks _ _ _ _ _ _ IW (Nat.le_refl _))
              have hdc : dbC W = 0 := by
                by_cases hWI : W = I
                · rw [hWI]; exact HI0.out
                · exact (HW.out W HP3.out hWI).1
              rw [hdc] at HDM
              clear hdc H HP HI0 HPW HmI hlt3 hq
              by_cases hWI : W = I
              · have HE := Lib.hid (show eqL W I = true from by rw [hWI]; exact eqL_refl I)
                clear hWI HW HP3 hWl
                go_wp2_with fail
                refine HDM.out.mono ?_
                rintro e w12 ⟨uD, rfl, -, b12⟩
                have z12 := b12.size
                replace IW := IW.below b12
                replace IO := IO.below b12
                replace IB := IB.below b12
                replace II := II.below b12
                replace BX := BX.trans (b12.mono zX)
                clear b12 HDM
                go_wp2_with fail
                refine (h_likeInts _ _ _ _ _ _ _ _ _ _ _ IO IB).mono ?_
                rintro e w13 ⟨rfl, m13, rfl⟩
                rw [hez.out]
                replace IW := IW.drewN m13
                replace II := II.drewN m13
                replace BX := below_drewN BX m13
                clear IO IB
                generalize w12.drewN m13 = w13 at *
                go_wp2_with fail
                refine (h_likeInts _ _ _ _ _ _ _ _ _ _ _ IW II).mono ?_
                rintro e w14 ⟨rfl, m14, rfl⟩
                rw [HE.out]
                go_wp2
                go_ret
                exact ⟨rfl, below_drewN BX _⟩
              · have HE := Lib.hid (eqL_ne hWI)
                have hdl := (HW.out W HP3.out hWI).2
                have hLs : (dbL W).length ≤ 1 := by rw [hdl]; simp
                have HL := Lib.hid (show eqL (dbL W) [(k0 : Int)] = true from by rw [hdl]; exact eqL_refl _)
                clear hdl hWI HW HP3 hWl
                generalize dbL W = L at *
                go_wp2_with fail
                refine HDM.out.mono ?_
                rintro e w12 ⟨uD, rfl, OD, b12⟩
                have z12 := b12.size
                replace IW := IW.below b12
                replace IO := IO.below b12
                replace IB := IB.below b12
                replace II := II.below b12
                replace BX := BX.trans (b12.mono zX)
                obtain ⟨AD, cD, rfl, ID⟩ := OD.ints (by omega)
                clear b12 HDM OD
                go_wp2_with fail
                refine (h_likeInts _ _ _ _ _ _ _ _ _ _ _ IO IB).mono ?_
                rintro e w13 ⟨rfl, m13, rfl⟩
                rw [hez.out]
                replace IW := IW.drewN m13
                replace II := II.drewN m13
                replace ID := ID.drewN m13
                replace BX := below_drewN BX m13
                have z13 : w12.heap.size ≤ (w12.drewN m13).heap.size := Nat.le_refl _
                clear IO IB
                generalize w12.drewN m13 = w13 at *
                go_wp2_with fail
                refine (h_likeInts _ _ _ _ _ _ _ _ _ _ _ IW II).mono ?_
                rintro e w14 ⟨rfl, m14, rfl⟩
                rw [HE.out]
                replace ID := ID.drewN m14
                replace BX := below_drewN BX m14
                have z14 : w12.heap.size ≤ (w13.drewN m14).heap.size := z13
                clear IW II
                generalize w13.drewN m14 = w14 at *
                go_wp2_with fail
                refine (h_likeInts AD (some ⟨w14.heap.size, 0, none⟩) L.length cD 1 1 L [(k0 : Int)] _ _ _ (ID.alloc z14 _) (lit_ints w14 [(k0 : Int)] 2 (by simp))).mono ?_
                rintro e w15 ⟨rfl, m15, rfl⟩
                rw [HL.out]
                go_wp2
                go_ret
                exact ⟨rfl, below_drewN (BX.alloc (by omega) _) _⟩
    · have e1 : bobC n a = 2 := by unfold bobC; rw [if_neg hab]
      rw [e1] at HI HS
      generalize bobV n a = V at *
      have hvv : (V != V) = false := by simp
      clear e1 hab
      go_wp2_with (first | (go_at_call 31; refine (HI.out _).mono ?_; rintro e w' ⟨rfl, rfl⟩) | (go_at_call 32; refine (HS.out _).mono ?_; rintro e w' ⟨rfl, rfl⟩))
      go_ret
      exact ⟨rfl, B1⟩
end Go.Proofs.Ytjheanonklgbcaa

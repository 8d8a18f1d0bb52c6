/- The draw of ReadNodeTable's argument. -/
import Derived.Test.YtgenfffgenddmaaDoorDn8
namespace Go.Proofs.YtgenfffgenddmaaDoor
open Go.RowKit
set_option linter.unusedSimpArgs false
set_option linter.unusedVariables false
theorem IOwn.put {W : World} {base b c i : Nat} {xs : List Int} {x : Int} (h : IOwn W base (.slice (some ⟨b, 0, none⟩) xs.length c) xs) (hi : i < xs.length) :
    (W.cell? ⟨b, i, none⟩ = some (.int .i64 (xs.getD i 0)) ∧ W.frozen? ⟨b, i, none⟩ = false) ∧ IOwn (W.setCell ⟨b, i, none⟩ (.int .i64 x)) base (.slice (some ⟨b, 0, none⟩) xs.length c) (xs.set i x) := by
  refine ⟨⟨?_, World.ownsRow.frozenAt h i⟩, ?_⟩
  · refine (World.ownsRow.cellAt h i (by simpa using hi)).trans ?_
    rw [List.getElem?_map, List.getElem?_eq_getElem hi]
    simp [List.getD_eq_getElem?_getD, List.getElem?_eq_getElem hi]
  · unfold IOwn
    rw [List.length_set, List.map_set]
    exact (World.ownsRow.stored h i (.int .i64 x)).1
def DrewI (w : World) (e : Ending) (w' : World) : Prop := ∃ (A : Option Addr) (n c : Nat) (xs : List Int), e = .returned (.slice A n c) ∧ IntsAt w' w'.heap.size A n c xs ∧ Below w.heap.size w w'
set_option maxHeartbeats 2000000 in
set_option maxRecDepth 100000 in
theorem s_DrawReadNodeTable (A : Option Addr) (n c : Nat) (bs : List Int) (B : Nat) (w : World) (h : BytesAt w B A n c bs) (hB : B ≤ w.heap.size) :
    Calls Tryd.prog 40 #[.slice A n c] w (DrewI w) := by
  go_enter Tryd.func40, Tryd.ntmps40
  go_wp2_with fail
  refine (s_l01From _ _ _ _ _ _ h hB).mono ?_
  rintro e w1 ⟨g, rfl, S1, hg, hb⟩
  have hl := S1.lt
  clear h hB
  go_wp2_with fail
  refine (s_l10DrawG g B _ S1).mono ?_
  rintro e w2 ⟨v, L, rfl, N2, l1, l2, hnm⟩
  obtain ⟨A2, n2, c2, rfl, HN2⟩ := N2.nodes (by omega) (fun d hd => (hnm d hd).1)
  have hn2 := HN2.1
  have z2 := N2.size
  go_wp2_with fail
  refine (s_l10BytesG A2 n2 c2 L _ w2 HN2 (Nat.le_refl _) (by omega) (fun k d hd => by have := hnm d (List.mem_of_getElem? hd); exact ⟨this.2, this.1⟩)).mono ?_
  rintro e w3 ⟨v3, rfl, O3, b3⟩
  have hel : (encK L n2).length ≤ 1 + n2 * 35 := encK_lenG (fun k d hd => (hnm d (List.mem_of_getElem? hd)).1) n2
  have hel1 : 1 ≤ (encK L n2).length := by
    have : ∀ k, 1 ≤ (encK L k).length := fun k => by
      induction k with
      | zero => simp [encK]
      | succ k ih =>
        unfold encK
        split
        · rw [List.length_append]; omega
        · exact ih
    exact this n2
  have S3 := N2.s.below b3
  have Gr3 := grown_trans' N2.gr (grown_of_below b3 (some g)) (.inl rfl)
  have z3 := b3.size
  generalize encK L n2 = E at *
  clear N2 HN2 hnm b3 S1
  go_wp2_with fail
  refine (s_l01DrawBytes g B 3 _ S3 (by omega) (by omega)).mono ?_
  rintro e w4 ⟨v4, ys, rfl, hys, O4, S4, g4⟩
  have z4 := g4.size
  have O34 := IOwn.kept O3 g4 (.inr (own_ne' O3 (by omega)))
  have Gr4 := grown_trans' Gr3 g4 (.inl rfl)
  obtain ⟨A4, c4, rfl, I4⟩ := O4.ints (by omega)
  have hlt := O34.lt
  clear O3 S3 g4 Gr3 O4
  have hgB := S4.1
  go_wp2_with (at_builtin; refine wpList_app _ rfl _ _ 22 rfl w2.heap.size Tryd.underlying22 int_info _ E rfl O34 _ _ _ _ ys rfl I4 (by omega) (by omega) ?_; intro v5 w5 O5 g5 _)
  have S5 := S4.kept g5 (own_ne' O34 (by omega)) (fun q hq => by have := (hlt q hq).1; omega)
  have Gr5 := grown_trans' Gr4 g5 (.inr fun q hq => by have := (hlt q hq).1; omega)
  have hlen : (E ++ ys).length ≤ 20000 := by rw [List.length_append]; omega
  have hlen1 : 1 ≤ (E ++ ys).length := by rw [List.length_append]; omega
  generalize E ++ ys = xs at *
  clear O34 S4 g5 Gr4 I4 hlt
  obtain ⟨A5, c5, rfl, I5⟩ := O5.ints (by omega)
  go_wp2_with fail
  refine (s_l01Next g B 8 _ S5).mono ?_
  rintro e w6 ⟨r, rfl, r0, r1, S6, g6⟩
  have O6 := IOwn.kept O5 g6 (.inr (own_ne' O5 (by omega)))
  have Gr6 := grown_trans' Gr5 g6 (.inl rfl)
  have z6 := Gr6.size
  clear O5 S5 g6 Gr5 I5
  have hi1 : IntKind.i64.wrap (xs.length : Int) = (xs.length : Int) := IntWalk.i64_in _ (by omega)
  rcases (by omega : r = 0 ∨ r = 1 ∨ 1 < r) with rfl | rfl | hr
  · go_wp2_with fail
    refine (s_l01Next g B xs.length _ S6).mono ?_
    rintro e w7 ⟨q, rfl, q0, q1, S7, g7⟩
    have O7 := IOwn.kept O6 g7 (.inr (own_ne' O6 (by omega)))
    have Gr7 := grown_trans' Gr6 g7 (.inl rfl)
    obtain ⟨i, rfl⟩ := nat_of' q q0
    clear O6 S6 g7 Gr6
    go_wp2_with fail
    refine (s_l01Next g B 256 _ S7).mono ?_
    rintro e w8 ⟨x, rfl, x0, x1, S8, g8⟩
    have O8 := IOwn.kept O7 g8 (.inr (own_ne' O7 (by omega)))
    have Gr8 := grown_trans' Gr7 g8 (.inl rfl)
    have z8 := Gr8.size
    clear O7 S7 g8 Gr7
    obtain ⟨A8, c8, e8, hc8, hcm8, hA8⟩ := O8.form
    injection e8 with e81 e82 e83
    subst e81 e83
    obtain ⟨b, rfl, hb8, hbl8⟩ : ∃ b, A5 = some ⟨b, 0, none⟩ ∧ w2.heap.size ≤ b ∧ b < w8.heap.size := by
      rcases hA8 with ⟨_, hnil, _⟩ | ⟨b, e, hb, hlt⟩
      · rw [hnil] at hlen1; simp at hlen1
      · exact ⟨b, e, hb, hlt⟩
    have hi : i < xs.length := by omega
    obtain ⟨⟨p0, p1⟩, P2⟩ := O8.put (x := x) hi
    have Gr9 := grown_set (p := ⟨b, i, none⟩) (World.grownBy.refl w8 (some b)) (.inl rfl) (.int .i64 x)
    have B9 := (src_below' hb Gr8 hg).trans (grown_below (B := w.heap.size) Gr9 (by have := hb.size; omega) (fun k hk => by injection hk with hk; have := hb.size; omega))
    have i0 : (0 : Int) ≤ (i : Int) := by omega
    have i1 : (i : Int) < (xs.length : Int) := by omega
    have HP := Lib.hid P2
    have HB := Lib.hid B9
    clear P2 B9 Gr9 O8 S8 Gr8
    go_wp2
    go_ret
    obtain ⟨A9, c9, e9, I9⟩ := HP.out.ints (by rw [List.length_set]; omega)
    rw [List.length_set] at e9 I9
    injection e9 with e91 e92 e93
    subst e91 e93
    exact ⟨_, _, _, _, rfl, I9, HB.out⟩
  · go_wp2_with fail
    refine (s_l01Next g B xs.length _ S6).mono ?_
    rintro e w7 ⟨q, rfl, q0, q1, S7, g7⟩
    have O7 := IOwn.kept O6 g7 (.inr (own_ne' O6 (by omega)))
    have Gr7 := grown_trans' Gr6 g7 (.inl rfl)
    obtain ⟨i, rfl⟩ := nat_of' q q0
    obtain ⟨A7, c7, e7, I7⟩ := O7.ints (by omega)
    injection e7 with e71 e72 e73
    subst e71 e73
    have hic : (i : Int) ≤ (c5 : Int) := by have := I7.le; omega
    have HI := Lib.hid (I7.cutTo i (by omega))
    have HB := Lib.hid (src_below' hb Gr7 hg)
    clear O6 S6 g7 Gr6 O7 I7 Gr7
    go_wp2
    go_ret
    exact ⟨_, _, _, _, rfl, HI.out, HB.out⟩
  · obtain ⟨A7, c7, e7, I7⟩ := O6.ints (by omega)
    injection e7 with e71 e72 e73
    subst e71 e73
    have HI := Lib.hid I7
    have HB := Lib.hid (src_below' hb Gr6 hg)
    have r00 : (r == 0) = false := by simp; omega
    have r11 : (r == 1) = false := by simp; omega
    clear O6 S6 Gr6 I7
    go_wp2
    go_ret
    exact ⟨_, _, _, _, rfl, HI.out, HB.out⟩
end Go.Proofs.YtgenfffgenddmaaDoor

/- The copy of a mode table, and the comparison of two. -/
import Derived.Test.YtgenfffgenddmaaMod
import Derived.Deep.RegionHeld3
import Derived.BigRegion
namespace Go.Proofs.Ytgenfffgenddmaa
open Go.RowKit
set_option linter.unusedSimpArgs false
set_option linter.unusedVariables false
theorem three_heap {w : World} {g : Nat} {u0 u1 u2 v0 v1 v2 : Value} {t : TypeId} (h : w.heap[g]? = some (.cells #[u0, u1, u2] t (0, 0))) :
    (((w.setCell ⟨g, 0, none⟩ v0).setCell ⟨g, 1, none⟩ v1).setCell ⟨g, 2, none⟩ v2).heap[g]? = some (.cells #[v0, v1, v2] t (0, 0)) := by
  simpa using heap_setCell_same _ g 2 _ _ v2 (heap_setCell_same _ g 1 _ _ v1 (heap_setCell_same _ g 0 _ _ v0 h))
theorem cells3 {w : World} {g : Nat} {a b c : Value} {t : TypeId} (h : w.heap[g]? = some (.cells #[a, b, c] t (0, 0))) :
    w.cell? ⟨g, 0, none⟩ = some a ∧ w.cell? ⟨g, 1, none⟩ = some b ∧ w.cell? ⟨g, 2, none⟩ = some c := by
  refine ⟨?_, ?_, ?_⟩ <;> simp [World.cell?, h]
theorem frozen3 {w : World} {g : Nat} {a b c : Value} {t : TypeId} (h : w.heap[g]? = some (.cells #[a, b, c] t (0, 0))) :
    w.frozen? ⟨g, 0, none⟩ = false ∧ w.frozen? ⟨g, 1, none⟩ = false ∧ w.frozen? ⟨g, 2, none⟩ = false := by
  refine ⟨?_, ?_, ?_⟩ <;> simp [World.frozen?, h]
theorem lt_of_row {w : World} {g : Nat} {o : Obj} (h : w.heap[g]? = some o) : g < w.heap.size := by
  rcases Nat.lt_or_ge g w.heap.size with hlt | hge
  · exact hlt
  · rw [Array.getElem?_eq_none hge] at h; cases h
theorem IOwn.setL {w : World} {base : Nat} {v : Value} {xs : List Int} (h : IOwn w base v xs) {g k : Nat} (hg : g < base) (u : Value) : IOwn (w.setCell ⟨g, k, none⟩ u) base v xs :=
  h.kept (w' := w.setCell ⟨g, k, none⟩ u) (row := some g) (grown_set (p := ⟨g, k, none⟩) (World.grownBy.refl w (some g)) (.inl rfl) u) (.inr (fun e => by have := (h.lt g e).1; omega))
theorem three_new (w : World) (a b c : Obj) : ∃ W, ((w.alloc a).alloc b).alloc c = W ∧ W.heap[w.heap.size + 1]? = some b ∧ W.heap[w.heap.size + 1 + 1]? = some c ∧ Below w.heap.size w W ∧ W.heap.size = w.heap.size + 3 := by
  refine ⟨_, rfl, ?_, ?_, (((Below.refl _ _).alloc (Nat.le_refl _) _).alloc (by simp) _).alloc (by simp; omega) _, by simp⟩
  · rw [Below.heap_alloc _ _ _ (by simp)]
    have := heap_alloc_new (w.alloc a) b
    simpa using this
  · have := heap_alloc_new ((w.alloc a).alloc b) c
    simpa using this
def ToMode (r s : Int) (xs : List Int) (w : World) (e : Ending) (w' : World) : Prop := ∃ (A : Option Addr) (c : Nat), e = .returned (.agg #[.int .i64 r, .int .i64 s, .slice A xs.length c]) ∧ IOwn w' w.heap.size (.slice A xs.length c) xs ∧ Below w.heap.size w w'
set_option maxHeartbeats 1000000 in
theorem h_toModeInfo (r s : Int) (A : Option Addr) (n c : Nat) (xs : List Int) (B : Nat) (w : World) (h : IntsAt w B A n c xs) (hB : B ≤ w.heap.size) :
    Calls Try.prog 16 #[.agg #[.int .i64 r, .int .i64 s, .slice A n c]] w (ToMode r s xs w) := by
  obtain ⟨W, hW, R1, R2, BW, zW⟩ := three_new w (.cells #[.int .i64 r, .int .i64 s, .slice A n c] 34) (.cells #[.int .i64 0, .int .i64 0, .slice none 0 0] 36) (.cells #[.int .i64 r, .int .i64 s, .slice none 0 0] 36)
  have HW := Lib.hid hW
  have HZ := Lib.hid zW
  clear hW zW
  go_enter Try.func16, Try.ntmps16
  go_wp2_with fail
  rw [HW.out]
  generalize hg1 : w.heap.size + 1 = g1 at *
  generalize hg2 : g1 + 1 = g2 at *
  have q1 : w.heap.size < g1 := by omega
  have q2 : g1 < g2 := by omega
  have q3 : g2 < W.heap.size := by have := HZ.out; omega
  clear hg1 hg2 HW HZ
  refine (h_toInt64S A n c xs B W (h.below' hB BW) (by omega)).mono ?_
  rintro e w1 ⟨v, rfl, o1, b1⟩
  obtain ⟨A', c', rfl, -, -, -⟩ := o1.form
  replace R1 := (b1.block g1 (by omega)).trans R1
  replace R2 := (b1.block g2 q3).trans R2
  have B1 := BW.trans (b1.mono (by omega))
  clear b1 h BW
  obtain ⟨d0, d1, d2⟩ := cells3 R2
  obtain ⟨e0, e1, e2⟩ := cells3 R1
  obtain ⟨k0, k1, k2⟩ := frozen3 R1
  obtain ⟨-, -, l2⟩ := frozen3 R2
  have n1 : g1 ≠ g2 := by omega
  have n2 : g2 ≠ g1 := by omega
  have HX : Hid (((((w1.setCell ⟨g2, 2, none⟩ (.slice A' xs.length c')).setCell ⟨g1, 0, none⟩ (.int .i64 r)).setCell ⟨g1, 1, none⟩ (.int .i64 s)).setCell ⟨g1, 2, none⟩ (.slice A' xs.length c')).heap[g1]? = some (.cells #[.int .i64 r, .int .i64 s, .slice A' xs.length c'] 36 (0, 0)) ∧
      IOwn ((((w1.setCell ⟨g2, 2, none⟩ (.slice A' xs.length c')).setCell ⟨g1, 0, none⟩ (.int .i64 r)).setCell ⟨g1, 1, none⟩ (.int .i64 s)).setCell ⟨g1, 2, none⟩ (.slice A' xs.length c')) W.heap.size (.slice A' xs.length c') xs ∧
      Below w.heap.size w ((((w1.setCell ⟨g2, 2, none⟩ (.slice A' xs.length c')).setCell ⟨g1, 0, none⟩ (.int .i64 r)).setCell ⟨g1, 1, none⟩ (.int .i64 s)).setCell ⟨g1, 2, none⟩ (.slice A' xs.length c'))) :=
    Lib.hid ⟨three_heap ((heap_setCell_other _ _ _ _ (by show g1 ≠ g2; exact n1)).trans R1), (((o1.setL q3 _).setL (by omega) _).setL (by omega) _).setL (by omega) _,
      (((B1.setCell (p := ⟨g2, 2, none⟩) (by show w.heap.size ≤ g2; omega) _).setCell (p := ⟨g1, 0, none⟩) (by show w.heap.size ≤ g1; omega) _).setCell (p := ⟨g1, 1, none⟩) (by show w.heap.size ≤ g1; omega) _).setCell (p := ⟨g1, 2, none⟩) (by show w.heap.size ≤ g1; omega) _⟩
  clear o1 B1 R1 R2
  go_wp2
  have X := HX.out
  clear HX d0 d1 d2 e0 e1 e2 k0 k1 k2 l2
  revert X
  generalize World.setCell _ _ _ = WF
  rintro ⟨RF, OF, BF⟩
  obtain ⟨e0, e1, e2⟩ := cells3 RF
  exact bodyPost_ret (v := .agg #[.int .i64 r, .int .i64 s, .slice A' xs.length c']) (by simp [results, Try.results16, go_sem, e0, e1, e2]) rfl ⟨A', c', rfl, OF.less (by omega), BF⟩
theorem mode_info : (Try.prog.info? 36).map (fun i => (i.zero, i.size, i.bytes)) = some (some (.agg #[.int .i64 0, .int .i64 0, .slice none 0 0]), 3, 40) := by kernel_rfl
/-- The cells of a table's copy, of which k elements are done. -/
def Done (w : World) (g : Nat) (M : List Md) (k : Nat) (cs : List Value) : Prop :=
  ∀ (j : Nat) (d : Md), j < k → M[j]? = some d → cs[j * 3]? = some (.int .i64 d.r) ∧ cs[j * 3 + 1]? = some (.int .i64 d.s) ∧ ∃ (A : Option Addr) (c : Nat), cs[j * 3 + 2]? = some (.slice A d.xs.length c) ∧ d.xs.length ≤ 16777216 ∧ IOwn w (g + 1) (.slice A d.xs.length c) d.xs
theorem Done.mono {w w' : World} {g k : Nat} {M : List Md} {cs : List Value} (h : Done w g M k cs) (hk : ∀ v xs, IOwn w (g + 1) v xs → IOwn w' (g + 1) v xs) : Done w' g M k cs := fun j d hj hd => by
  obtain ⟨h0, h1, A, c, h2, hl, o⟩ := h j d hj hd
  exact ⟨h0, h1, A, c, h2, hl, hk _ _ o⟩
theorem Done.next {w : World} {g k : Nat} {M : List Md} {cs : List Value} {d : Md} {A : Option Addr} {c : Nat} (h : Done w g M k cs) (hd : M[k]? = some d) (hk : k * 3 + 2 < cs.length) (hl : d.xs.length ≤ 16777216) (o : IOwn w (g + 1) (.slice A d.xs.length c) d.xs) :
    Done w g M (k + 1) (((cs.set (k * 3) (.int .i64 d.r)).set (k * 3 + 1) (.int .i64 d.s)).set (k * 3 + 2) (.slice A d.xs.length c)) := fun j e hj he => by
  by_cases hjk : j = k
  · subst hjk
    obtain rfl := Option.some.inj (he.symm.trans hd)
    refine ⟨?_, ?_, A, c, ?_, hl, o⟩
    · rw [List.getElem?_set_ne (by omega), List.getElem?_set_ne (by omega), List.getElem?_set_self (by omega)]
    · rw [List.getElem?_set_ne (by omega), List.getElem?_set_self (by rw [List.length_set]; omega)]
    · rw [List.getElem?_set_self (by rw [List.length_set, List.length_set]; omega)]
  · obtain ⟨h0, h1, A', c', h2, hl', o'⟩ := h j e (by omega) he
    refine ⟨?_, ?_, A', c', ?_, hl', o'⟩
    · rw [List.getElem?_set_ne (by omega), List.getElem?_set_ne (by omega), List.getElem?_set_ne (by omega)]; exact h0
    · rw [List.getElem?_set_ne (by omega), List.getElem?_set_ne (by omega), List.getElem?_set_ne (by omega)]; exact h1
    · rw [List.getElem?_set_ne (by omega), List.getElem?_set_ne (by omega), List.getElem?_set_ne (by omega)]; exact h2
def ToModes (M : List Md) (w : World) (e : Ending) (w' : World) : Prop := ∃ A : Option Addr, e = .returned (.slice A M.length M.length) ∧ ModesAt w' w'.heap.size A M.length M.length M ∧ Below w.heap.size w w'
set_option maxHeartbeats 4000000 in
theorem h_toModeInfoS (A : Option Addr) (n c : Nat) (M : List Md) (B : Nat) (w : World) (h : ModesAt w B A n c M) (hB : B ≤ w.heap.size) :
    Calls Try.prog 7 #[.slice A n c] w (ToModes M w) := by
  obtain ⟨i0, hi, hz0, hz1, hz2⟩ := info_parts mode_info
  have hn := h.2.2.1
  have HL := Lib.hid h.1
  go_enter Try.func7, Try.ntmps7
  go_wp2_with (at_make; refine wpList_make_full _ rfl _ _ 25 rfl w.heap.size 36 i0 (.agg #[.int .i64 0, .int .i64 0, .slice none 0 0]) 3 Try.underlying25 hi hz0 hz1 .i64 .i64 _ _ n rfl rfl rfl rfl ?c1 ?c2 ?c3 ?_)
  case c1 => rw [hz2]; omega
  case c2 => unfold maxLen; omega
  case c3 => exact Nat.le_refl _
  intro w1 hown0 hg0
  have hb0 : Below w.heap.size w w1 := grown_below hg0 (Nat.le_refl _) (by intro k hk; cases hk)
  have hgl : w.heap.size < w1.heap.size := (World.ownsRow.lt hown0 w.heap.size rfl).2
  generalize (madeCells _ _).toList = cs0 at hown0
  have hD0 : Hid (∃ cs, w1.ownsRow w.heap.size 36 3 (.slice (some ⟨w.heap.size, 0, none⟩) n n) n cs ∧ Done w1 w.heap.size M 0 cs) := Lib.hid ⟨_, hown0, fun j d hj => by omega⟩
  clear hown0 hg0 hi hz0 hz1 hz2
  generalize hg : w.heap.size = g at *
  have HG := Lib.hid hg
  clear hg
  go_wp2
  go_loopw [4] (fun i wr => ∃ k : Nat, k ≤ n ∧ i = .int .i64 k ∧ g < wr.heap.size ∧ Below g w wr ∧ Hid (∃ cs, wr.ownsRow g 36 3 (.slice (some ⟨g, 0, none⟩) n n) n cs ∧ Done wr g M k cs)) (fun i _ => n - (intOf i).toNat)
  case atStart => exact ⟨0, Nat.zero_le _, rfl, hgl, hb0, hD0⟩
  case round =>
    clear hgl hb0 hD0
    obtain ⟨k, hk, rfl, hgl, hb, hD⟩ := hrel
    by_cases hlt : k < n
    · obtain ⟨ad, d, A', c', rfl, hab, hd, cs, hI⟩ := h.at_ k hlt
      obtain ⟨c0, c1, c2⟩ := cs.keep fun p hp => hb.cell (by rw [hp]; omega)
      have hI' := hI.below' hB hb
      have HD := Lib.hid hd
      have hxl : d.xs.length ≤ 16777216 := hI.small
      have hT := Lib.hid (fun W I hB => h_toModeInfo d.r d.s A' d.xs.length c' d.xs B W I hB)
      clear hI h cs hd
      have HX := Lib.hid hxl
      clear hxl
      obtain ⟨N, hN⟩ : ∃ N, N = d.xs.length := ⟨_, rfl⟩
      rw [← hN] at c2 hI' hT
      have HN := Lib.hid hN
      clear hN
      go_wp2_with fail
      refine (hT.out wr hI' (by omega)).mono ?_
      rintro e w2 ⟨A2, c2', rfl, o2, b2⟩
      obtain ⟨cs, hown, hdn⟩ := hD.out
      have z2 := b2.size
      replace hown := World.ownsRow.kept hown (grown_of_below b2 none) (by simp [Value.ownBlock])
      replace hdn := hdn.mono (fun v xs o => o.below_ b2)
      have hb2 := hb.trans (b2.mono (by omega))
      have hcl : cs.length = n * 3 := hown.1
      have f0 := hown.frozenAt (k * 3)
      have f1 := hown.frozenAt (k * 3 + 1)
      have f2 := hown.frozenAt (k * 3 + 2)
      have e0 := hown.cellAt (k * 3) (by omega)
      have e1 := hown.cellAt (k * 3 + 1) (by omega)
      have e2 := hown.cellAt (k * 3 + 2) (by omega)
      rw [List.getElem?_eq_getElem (by omega)] at e0 e1 e2
      have h1 := (hown.stored (k * 3) (.int .i64 d.r)).1
      have h2 := (h1.stored (k * 3 + 1) (.int .i64 d.s)).1
      have h3 := (h2.stored (k * 3 + 2) (.slice A2 d.xs.length c2')).1
      have o2' := o2.less (base' := g + 1) (by omega)
      have hdN := hdn.next HD.out (by omega) HX.out o2'
      have H3 : Hid (∃ cs, ((((w2.setCell ⟨g, k * 3, none⟩ (.int .i64 d.r)).setCell ⟨g, k * 3 + 1, none⟩ (.int .i64 d.s)).setCell ⟨g, k * 3 + 2, none⟩ (.slice A2 d.xs.length c2'))).ownsRow g 36 3 (.slice (some ⟨g, 0, none⟩) n n) n cs ∧
          Done (((w2.setCell ⟨g, k * 3, none⟩ (.int .i64 d.r)).setCell ⟨g, k * 3 + 1, none⟩ (.int .i64 d.s)).setCell ⟨g, k * 3 + 2, none⟩ (.slice A2 d.xs.length c2')) g M (k + 1) cs) :=
        Lib.hid ⟨_, h3, hdN.mono (fun v xs o => ((o.setL (by omega) _).setL (by omega) _).setL (by omega) _)⟩
      have hb3 : Below g w (((w2.setCell ⟨g, k * 3, none⟩ (.int .i64 d.r)).setCell ⟨g, k * 3 + 1, none⟩ (.int .i64 d.s)).setCell ⟨g, k * 3 + 2, none⟩ (.slice A2 d.xs.length c2')) :=
        ((hb2.setCell (p := ⟨g, k * 3, none⟩) (Nat.le_refl _) _).setCell (p := ⟨g, k * 3 + 1, none⟩) (Nat.le_refl _) _).setCell (p := ⟨g, k * 3 + 2, none⟩) (Nat.le_refl _) _
      have hz3 : g < (((w2.setCell ⟨g, k * 3, none⟩ (.int .i64 d.r)).setCell ⟨g, k * 3 + 1, none⟩ (.int .i64 d.s)).setCell ⟨g, k * 3 + 2, none⟩ (.slice A2 d.xs.length c2')).heap.size := by simp [World.setCell]; omega
      have HB3 := Lib.hid hb3
      have HZ3 := Lib.hid hz3
      clear h1 h2 h3 o2 o2' hdN hdn hown hb2 b2 hb hb3 hz3
      generalize cs[k * 3]'_ = x0 at e0
      generalize cs[k * 3 + 1]'_ = x1 at e1
      generalize cs[k * 3 + 2]'_ = x2 at e2
      clear hcl cs c0 c1 c2 hI' hD hT
      go_wp2
      go_roundw
      case rel => exact ⟨k + 1, by omega, by go_num, HZ3.out, HB3.out, H3⟩
      case measure => simp [intOf]; omega
    · go_wp2
      go_ret
      obtain ⟨cs, hown, hdn⟩ := hD.out
      have hl := HL.out
      refine ⟨some ⟨g, 0, none⟩, by simp [hl], ?_, by rw [HG.out]; exact hb⟩
      rw [hl]
      refine ⟨hl, Nat.le_refl _, hn, by unfold maxLen; omega, fun _ => ⟨_, rfl, hgl, fun j d hd => ?_⟩⟩
      have hj := (List.getElem?_eq_some_iff.1 hd).1
      obtain ⟨h0, h1, A', c', h2, hx, o⟩ := hdn j d (by omega) hd
      have ea : (⟨g, 0, none⟩ : Addr).add (j * 3) = ⟨g, j * 3, none⟩ := by
        unfold Addr.add
        split
        · simp_all
        · simp
      obtain ⟨A3, c3, e3, I3⟩ := o.ints hx
      injection e3 with e31 e32 e33
      subst e31 e33
      refine ⟨A', c', ?_, I3⟩
      unfold mpCells
      rw [ea]
      exact ⟨(hown.cellAt (j * 3) (by omega)).trans h0, (hown.cellAt (j * 3 + 1) (by omega)).trans h1, (hown.cellAt (j * 3 + 2) (by omega)).trans h2⟩
end Go.Proofs.Ytgenfffgenddmaa

/- The draw of WorstDrift's arguments, by an invariant over its drawn region. -/
import Derived.Test.YtgenfffgenddmaaDoorDn4a
import Derived.Test.YtgenfffgenddmaaDoorRinv2
namespace Go.Proofs.YtgenfffgenddmaaDoor
open Go.RowKit
set_option linter.unusedSimpArgs false
set_option linter.unusedVariables false
def sel5 (q : Nat) (a0 a1 a2 a3 a4 : Int) : Int := match q with | 0 => a0 | 1 => a1 | 2 => a2 | 3 => a3 | _ => a4
theorem sel_lst (q : Nat) (h : (q : Int) < 5) : ∀ a0 a1 a2 a3 a4 : Int, ([Value.int .i64 a0, Value.int .i64 a1, Value.int .i64 a2, Value.int .i64 a3, Value.int .i64 a4] : List Value)[q]? = some (.int .i64 (sel5 q a0 a1 a2 a3 a4)) := by
  intro a0 a1 a2 a3 a4
  have h' : q < 5 := by omega
  match q, h' with
  | 0, _ => rfl
  | 1, _ => rfl
  | 2, _ => rfl
  | 3, _ => rfl
  | 4, _ => rfl
theorem sel_arr (q : Nat) (h : (q : Int) < 5) (a0 a1 a2 a3 a4 : Int) : (#[Value.int .i64 a0, Value.int .i64 a1, Value.int .i64 a2, Value.int .i64 a3, Value.int .i64 a4] : Array Value)[q]? = some (.int .i64 (sel5 q a0 a1 a2 a3 a4)) := by
  have := sel_lst q h a0 a1 a2 a3 a4
  simpa using this
theorem five_of {w : World} {b : Nat} {a0 a1 a2 a3 a4 : Int} {t : TypeId} (h : w.heap[b]? = some (.cells #[.int .i64 a0, .int .i64 a1, .int .i64 a2, .int .i64 a3, .int .i64 a4] t (0, 0))) (q : Nat) (hq : (q : Int) < 5) : ∃ v : Int, w.cell? ⟨b, q, none⟩ = some (.int .i64 v) :=
  ⟨_, (cell_of_row _ _ _ _ _ _ h).trans (sel_arr q hq a0 a1 a2 a3 a4)⟩
theorem own_lowN {w : World} {b b' : Nat} {v : Value} {L : List Nd} (h : NOwn w b v L) (hb : b' ≤ b) : NOwn w b' v L :=
  ⟨h.1, h.2.imp id fun ⟨g, cap, cur, e, hg, r⟩ => ⟨g, cap, cur, e, Nat.le_trans hb hg, r⟩⟩
def FB (W : World) (g b : Nat) : Prop := (∃ a0 a1 a2 a3 a4 : Int, W.heap[b]? = some (.cells #[.int .i64 a0, .int .i64 a1, .int .i64 a2, .int .i64 a3, .int .i64 a4] 2 (0, 0))) ∧ b ≠ g
def WQ (w1 : World) (B g : Nat) (l : Nat → Bool) (v2 v3 v7 v8 v9 v10 v11 v12 v13 v14 v15 : Value) (W : World) : Prop :=
  Src W B g ∧ w1.grownBy W (some g) ∧ (l 0 = true → v7 = .pointer (some ⟨g, 0, none⟩)) ∧ (l 1 = true → ∃ L, NOwn W w1.heap.size v8 L ∧ L.length ≤ 7 ∧ nmSm L) ∧ (l 2 = true → v9 = .pointer (some ⟨g, 0, none⟩)) ∧
  (l 3 = true → ∃ y : Int, v10 = .int .i64 y) ∧ (l 4 = true → ∃ b, v11 = .slice (some ⟨b, 0, none⟩) 5 5 ∧ FB W g b) ∧ (l 5 = true → v12 = .pointer (some ⟨g, 0, none⟩)) ∧ (l 6 = true → ∃ q : Nat, v13 = .int .i64 q ∧ (q : Int) < 5) ∧
  (l 7 = true → ∃ b q : Nat, v14 = .pointer (some ⟨b, q, none⟩) ∧ (q : Int) < 5 ∧ FB W g b) ∧ (l 8 = true → ∃ x : Int, v15 = .int .i64 x) ∧ (l 9 = true → l 1 = true ∧ v2 = v8) ∧ (l 10 = true → ∃ x : Int, v3 = .int .i64 x)
theorem FB.keep {W W' : World} {g b : Nat} (h : FB W g b) (gg : W.grownBy W' (some g)) : FB W' g b := by
  obtain ⟨⟨a0, a1, a2, a3, a4, hb⟩, hne⟩ := h
  exact ⟨⟨a0, a1, a2, a3, a4, zkeep hb gg (fun e => hne e.symm)⟩, hne⟩
theorem WQ.world {w1 W W' : World} {B g : Nat} {l : Nat → Bool} {v2 v3 v7 v8 v9 v10 v11 v12 v13 v14 v15 : Value} (h : WQ w1 B g l v2 v3 v7 v8 v9 v10 v11 v12 v13 v14 v15 W) (hl : g < w1.heap.size) (S' : Src W' B g) (gg : W.grownBy W' (some g)) : WQ w1 B g l v2 v3 v7 v8 v9 v10 v11 v12 v13 v14 v15 W' := by
  obtain ⟨S, Gr, h0, h1, h2, h3, h4, h5, h6, h7, h8, h9, h10⟩ := h
  exact ⟨S', grown_trans' Gr gg (.inl rfl), h0, fun hh => by
    obtain ⟨L, o, r⟩ := h1 hh
    exact ⟨L, World.ownsRow.kept o gg (.inr fun e => by have := (o.lt _ e).1; omega), r⟩, h2, h3, fun hh => by
    obtain ⟨b, e, F⟩ := h4 hh
    exact ⟨b, e, F.keep gg⟩, h5, h6, fun hh => by
    obtain ⟨b, q, e, hq, F⟩ := h7 hh
    exact ⟨b, q, e, hq, F.keep gg⟩, h8, h9, h10⟩
set_option maxRecDepth 100000 in
set_option maxHeartbeats 4000000 in
theorem s_DrawWorstDrift (A : Option Addr) (n c : Nat) (bs : List Int) (B : Nat) (w : World) (h : BytesAt w B A n c bs) (hB : B ≤ w.heap.size) :
    Calls Tryd.prog 43 #[.slice A n c] w (DrewN w) := by
  go_enter Tryd.func43, Tryd.ntmps43
  go_wp2_with fail
  refine (s_l01From _ _ _ _ _ _ h hB).mono ?_
  rintro e w1 ⟨g, rfl, S1, hg, hb⟩
  have hl := S1.lt
  clear h hB
  go_upto_region 2 with fail
  refine wp_region_inv (by kernel_rfl) (low_of (by kernel_rfl)) (fun l a W => ∃ v2 v3 v7 v8 v9 v10 v11 v12 v13 v14 v15 : Value, a = ⟨#[.slice A n c, undef, v2, v3, .pointer (some ⟨g, 0, none⟩), .slice A n c, .pointer (some ⟨g, 0, none⟩), v7, v8, v9, v10, v11, v12, v13, v14, v15], []⟩ ∧ WQ w1 B g l v2 v3 v7 v8 v9 v10 v11 v12 v13 v14 v15 W) ⟨_, _, _, _, _, _, _, _, _, _, _, rfl, S1, grown_drew (World.grownBy.refl _ _), by simp, by simp, by simp, by simp, by simp, by simp, by simp, by simp, by simp, by simp, by simp⟩ ?_ ?_
  · clear S1
    rintro l i o ho hf he a W ⟨v2, v3, v7, v8, v9, v10, v11, v12, v13, v14, v15, rfl, S, Gr, h0, h1, h2, h3, h4, h5, h6, h7, h8, h9, h10⟩ K hK
    have hi : i < 11 := (Array.getElem?_eq_some_iff.1 ho).1
    obtain rfl | rfl | rfl | rfl | rfl | rfl | rfl | rfl | rfl | rfl | rfl : i = 0 ∨ i = 1 ∨ i = 2 ∨ i = 3 ∨ i = 4 ∨ i = 5 ∨ i = 6 ∨ i = 7 ∨ i = 8 ∨ i = 9 ∨ i = 10 := by omega
    all_goals obtain rfl := Option.some.inj (show some _ = some o from ho)
    all_goals clear ho hi
    · go_simp
      exact hK _ _ ⟨v2, v3, _, v8, v9, v10, v11, v12, v13, v14, v15, by first | rfl | simp, S, Gr, (fun _ => rfl), (fun hh => h1 (by simpa using hh)), (fun hh => h2 (by simpa using hh)), (fun hh => h3 (by simpa using hh)), (fun hh => h4 (by simpa using hh)), (fun hh => h5 (by simpa using hh)), (fun hh => h6 (by simpa using hh)), (fun hh => h7 (by simpa using hh)), (fun hh => h8 (by simpa using hh)), (fun hh => h9 (by simpa using hh)), (fun hh => h10 (by simpa using hh))⟩
    · obtain rfl := h0 (he ⟨0, .data⟩ (by simp) rfl)
      go_simp
      refine (s_l10DrawAny g B W S).mono ?_
      rintro e W' ⟨v, L, rfl, N, l1, l2, hnm⟩
      have hsz := Gr.size
      obtain ⟨S, Gr, h0, h1, h2, h3, h4, h5, h6, h7, h8, h9, h10⟩ := WQ.world (l := l) ⟨S, Gr, h0, h1, h2, h3, h4, h5, h6, h7, h8, h9, h10⟩ hl N.s N.gr
      exact hK _ _ ⟨v2, v3, _, _, v9, v10, v11, v12, v13, v14, v15, by first | rfl | simp, S, Gr, (fun hh => h0 (by simpa using hh)), (fun _ => ⟨L, own_lowN N.o hsz, by omega, hnm⟩), (fun hh => h2 (by simpa using hh)), (fun hh => h3 (by simpa using hh)), (fun hh => h4 (by simpa using hh)), (fun hh => h5 (by simpa using hh)), (fun hh => h6 (by simpa using hh)), (fun hh => h7 (by simpa using hh)), (fun hh => h8 (by simpa using hh)), (fun hh => by have := (h9 (by simpa using hh)).1; rw [hf] at this; cases this), (fun hh => h10 (by simpa using hh))⟩
    · go_simp
      exact hK _ _ ⟨v2, v3, v7, v8, _, v10, v11, v12, v13, v14, v15, by first | rfl | simp, S, Gr, (fun hh => h0 (by simpa using hh)), (fun hh => h1 (by simpa using hh)), (fun _ => rfl), (fun hh => h3 (by simpa using hh)), (fun hh => h4 (by simpa using hh)), (fun hh => h5 (by simpa using hh)), (fun hh => h6 (by simpa using hh)), (fun hh => h7 (by simpa using hh)), (fun hh => h8 (by simpa using hh)), (fun hh => h9 (by simpa using hh)), (fun hh => h10 (by simpa using hh))⟩
    · obtain rfl := h2 (he ⟨2, .data⟩ (by simp) rfl)
      go_simp
      refine (s_l01Next g B 60000 W S).mono ?_
      rintro e W' ⟨y, rfl, y0, y1, S', g'⟩
      obtain ⟨S, Gr, h0, h1, h2, h3, h4, h5, h6, h7, h8, h9, h10⟩ := WQ.world (l := l) ⟨S, Gr, h0, h1, h2, h3, h4, h5, h6, h7, h8, h9, h10⟩ hl S' g'
      exact hK _ _ ⟨v2, v3, v7, v8, _, _, v11, v12, v13, v14, v15, by first | rfl | simp, S, Gr, (fun hh => h0 (by simpa using hh)), (fun hh => h1 (by simpa using hh)), (fun hh => h2 (by simpa using hh)), (fun _ => ⟨y, rfl⟩), (fun hh => h4 (by simpa using hh)), (fun hh => h5 (by simpa using hh)), (fun hh => h6 (by simpa using hh)), (fun hh => h7 (by simpa using hh)), (fun hh => h8 (by simpa using hh)), (fun hh => h9 (by simpa using hh)), (fun hh => h10 (by simpa using hh))⟩
    · obtain ⟨y, rfl⟩ := h3 (he ⟨3, .data⟩ (by simp) rfl)
      have hne : W.heap.size ≠ g := by have := S.lt; omega
      go_simp
      generalize hW' : W.alloc _ = W'
      have R : ∃ a0 a1 a2 a3 a4 : Int, W'.heap[W.heap.size]? = some (.cells #[.int .i64 a0, .int .i64 a1, .int .i64 a2, .int .i64 a3, .int .i64 a4] 2 (0, 0)) := by rw [← hW']; exact ⟨_, _, _, _, _, heap_alloc_new W _⟩
      have S' : Src W' B g := by rw [← hW']; exact S.alloc _
      have g' : W.grownBy W' (some g) := by rw [← hW']; exact grown_alloc (World.grownBy.refl _ _) _
      obtain ⟨S, Gr, h0, h1, h2, h3, h4, h5, h6, h7, h8, h9, h10⟩ := WQ.world (l := l) ⟨S, Gr, h0, h1, h2, h3, h4, h5, h6, h7, h8, h9, h10⟩ hl S' g'
      exact hK _ _ ⟨v2, v3, v7, v8, v9, _, _, v12, v13, v14, v15, by first | rfl | simp, S, Gr, (fun hh => h0 (by simpa using hh)), (fun hh => h1 (by simpa using hh)), (fun hh => h2 (by simpa using hh)), (fun hh => h3 (by simpa using hh)), (fun _ => ⟨_, rfl, R, hne⟩), (fun hh => h5 (by simpa using hh)), (fun hh => h6 (by simpa using hh)), (fun hh => h7 (by simpa using hh)), (fun hh => h8 (by simpa using hh)), (fun hh => h9 (by simpa using hh)), (fun hh => h10 (by simpa using hh))⟩
    · go_simp
      exact hK _ _ ⟨v2, v3, v7, v8, v9, v10, v11, _, v13, v14, v15, by first | rfl | simp, S, Gr, (fun hh => h0 (by simpa using hh)), (fun hh => h1 (by simpa using hh)), (fun hh => h2 (by simpa using hh)), (fun hh => h3 (by simpa using hh)), (fun hh => h4 (by simpa using hh)), (fun _ => rfl), (fun hh => h6 (by simpa using hh)), (fun hh => h7 (by simpa using hh)), (fun hh => h8 (by simpa using hh)), (fun hh => h9 (by simpa using hh)), (fun hh => h10 (by simpa using hh))⟩
    · obtain rfl := h5 (he ⟨5, .data⟩ (by simp) rfl)
      go_simp
      refine (s_l01Next g B 5 W S).mono ?_
      rintro e W' ⟨r, rfl, r0, r1, S', g'⟩
      obtain ⟨q, rfl⟩ := nat_of' r r0
      obtain ⟨S, Gr, h0, h1, h2, h3, h4, h5, h6, h7, h8, h9, h10⟩ := WQ.world (l := l) ⟨S, Gr, h0, h1, h2, h3, h4, h5, h6, h7, h8, h9, h10⟩ hl S' g'
      exact hK _ _ ⟨v2, v3, v7, v8, v9, v10, v11, _, _, v14, v15, by first | rfl | simp, S, Gr, (fun hh => h0 (by simpa using hh)), (fun hh => h1 (by simpa using hh)), (fun hh => h2 (by simpa using hh)), (fun hh => h3 (by simpa using hh)), (fun hh => h4 (by simpa using hh)), (fun hh => h5 (by simpa using hh)), (fun _ => ⟨q, rfl, by omega⟩), (fun hh => h7 (by simpa using hh)), (fun hh => h8 (by simpa using hh)), (fun hh => h9 (by simpa using hh)), (fun hh => h10 (by simpa using hh))⟩
    · obtain ⟨b, rfl, F⟩ := h4 (he ⟨4, .data⟩ (by simp) rfl)
      obtain ⟨q, rfl, hq⟩ := h6 (he ⟨6, .data⟩ (by simp) rfl)
      have b0 : (0 : Int) ≤ (q : Int) := by omega
      go_simp
      exact hK _ _ ⟨v2, v3, v7, v8, v9, v10, _, v12, _, _, v15, by first | rfl | simp, S, Gr, (fun hh => h0 (by simpa using hh)), (fun hh => h1 (by simpa using hh)), (fun hh => h2 (by simpa using hh)), (fun hh => h3 (by simpa using hh)), (fun hh => h4 (by simpa using hh)), (fun hh => h5 (by simpa using hh)), (fun hh => h6 (by simpa using hh)), (fun _ => ⟨b, q, rfl, hq, F⟩), (fun hh => h8 (by simpa using hh)), (fun hh => h9 (by simpa using hh)), (fun hh => h10 (by simpa using hh))⟩
    · obtain ⟨b, q, rfl, hq, ⟨a0, a1, a2, a3, a4, hb⟩, hne⟩ := h7 (he ⟨7, .data⟩ (by simp) rfl)
      obtain ⟨x, hv⟩ := five_of hb q hq
      go_simp
      exact hK _ _ ⟨v2, v3, v7, v8, v9, v10, v11, v12, v13, _, _, by first | rfl | simp, S, Gr, (fun hh => h0 (by simpa using hh)), (fun hh => h1 (by simpa using hh)), (fun hh => h2 (by simpa using hh)), (fun hh => h3 (by simpa using hh)), (fun hh => h4 (by simpa using hh)), (fun hh => h5 (by simpa using hh)), (fun hh => h6 (by simpa using hh)), (fun hh => h7 (by simpa using hh)), (fun _ => ⟨x, rfl⟩), (fun hh => h9 (by simpa using hh)), (fun hh => h10 (by simpa using hh))⟩
    · have he1 := he ⟨1, .data⟩ (by simp) rfl
      go_simp
      exact hK _ _ ⟨_, v3, v7, v8, v9, v10, v11, v12, v13, v14, v15, by first | rfl | simp, S, Gr, (fun hh => h0 (by simpa using hh)), (fun hh => h1 (by simpa using hh)), (fun hh => h2 (by simpa using hh)), (fun hh => h3 (by simpa using hh)), (fun hh => h4 (by simpa using hh)), (fun hh => h5 (by simpa using hh)), (fun hh => h6 (by simpa using hh)), (fun hh => h7 (by simpa using hh)), (fun hh => h8 (by simpa using hh)), (fun _ => ⟨by simpa using he1, rfl⟩), (fun hh => h10 (by simpa using hh))⟩
    · obtain ⟨x, rfl⟩ := h8 (he ⟨8, .data⟩ (by simp) rfl)
      go_simp
      exact hK _ _ ⟨v2, _, v7, v8, v9, v10, v11, v12, v13, v14, _, by first | rfl | simp, S, Gr, (fun hh => h0 (by simpa using hh)), (fun hh => h1 (by simpa using hh)), (fun hh => h2 (by simpa using hh)), (fun hh => h3 (by simpa using hh)), (fun hh => h4 (by simpa using hh)), (fun hh => h5 (by simpa using hh)), (fun hh => h6 (by simpa using hh)), (fun hh => h7 (by simpa using hh)), (fun hh => h8 (by simpa using hh)), (fun hh => h9 (by simpa using hh)), (fun _ => ⟨x, rfl⟩)⟩
  · rintro l a W hall ⟨v2, v3, v7, v8, v9, v10, v11, v12, v13, v14, v15, rfl, S, Gr, h0, h1, h2, h3, h4, h5, h6, h7, h8, h9, h10⟩
    obtain ⟨L, O, l1, hnm⟩ := h1 (hall 1 (by decide))
    obtain ⟨_, rfl⟩ := h9 (hall 9 (by decide))
    obtain ⟨x, rfl⟩ := h10 (hall 10 (by decide))
    have N4 : NS w1 B g W v2 L := ⟨S, O, Gr⟩
    obtain ⟨A', n', c', rfl, HN⟩ := N4.nodes (by omega) hnm
    clear h0 h1 h2 h3 h4 h5 h6 h7 h8 h9 h10 hall
    go_wp2
    go_ret2
    exact ⟨_, _, _, L, _, rfl, HN, by rw [← HN.1]; omega, N4.under hb hg⟩
end Go.Proofs.YtgenfffgenddmaaDoor

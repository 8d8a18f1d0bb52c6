/- The draw of a list of bytes. -/
import Derived.Test.YtgenfffgenddmaaDoorDrawK
namespace Go.Proofs.YtgenfffgenddmaaDoor
open Go.RowKit
set_option linter.unusedSimpArgs false
set_option linter.unusedVariables false
theorem row_get {w : World} {b q : Nat} {xs : Array Value} {t : TypeId} {x : Value} (h : w.heap[b]? = some (.cells xs t (0, 0))) (hx : xs[q]? = some x) : w.cell? ⟨b, q, none⟩ = some x := (cell_of_row _ _ _ _ _ _ h).trans hx
theorem own_of_row {W : World} {base g : Nat} (n : Nat) (hn : n ≤ 1000000) (hb : base ≤ g) (h : W.heap[g]? = some (Obj.cells ((List.replicate n 0).map (Value.int .i64)).toArray 2)) :
    IOwn W base (.slice (some ⟨g, 0, none⟩) n n) (List.replicate n 0) := by
  unfold IOwn
  rw [List.length_replicate]
  refine ⟨by simp, .inr ⟨g, n, _, rfl, hb, h, Nat.le_refl _, by unfold maxLen; omega, by simp, by simp⟩⟩
theorem make_run (n : Nat) (hn : n ≤ 1000000) (w : World) :
    (Instr.makeSlice 22 (.int .i64 (n : Int)) (.int .i64 (n : Int))).run Tryd.prog w = .ok (.slice (some ⟨w.heap.size, 0, none⟩) n n) (w.alloc (.cells ((List.replicate n 0).map (Value.int .i64)).toArray 2)) := by
  obtain ⟨i0, hi, hz0, hz1, hz2⟩ := info_parts int_info
  have h := run_make (P := Tryd.prog) w 22 2 i0 (.int .i64 0) Tryd.underlying22 hi hz0 .i64 .i64 (n : Int) (n : Int) (by omega) (Int.le_refl _) (by rw [hz2]; omega) (by omega)
  rw [h, Int.toNat_natCast, hz1, Nat.mul_one]
  have e : madeCells (Value.int .i64 0).cells n = ((List.replicate n 0).map (Value.int .i64)).toArray := by
    apply Array.ext'
    rw [show (Value.int IntKind.i64 0).cells = #[Value.int .i64 0] from rfl, toList_madeCells_one]
    simp
  rw [e]
theorem own_ne' {w : World} {base g : Nat} {v : Value} {xs : List Int} (h : IOwn w base v xs) (hg : g < base) : v.ownBlock ≠ some g := fun e => by have := (h.lt g e).1; omega
theorem list_push' {wr w' : World} {base B g : Nat} {v : Value} {xs : List Int} {o : Obj} (hown : IOwn wr base v xs) (hg : (wr.alloc o).grownBy w' v.ownBlock) (S : Src wr B g) (hgb : g < base) (hB : B ≤ base) (hbase : base ≤ wr.heap.size) :
    Src w' B g ∧ wr.heap.size ≤ w'.heap.size := by
  have z := hg.size
  simp at z
  exact ⟨(S.alloc o).kept hg (own_ne' hown hgb) (fun q hq => by have := (hown.lt q hq).1; omega), by omega⟩
def DrewLB (B g : Nat) (w : World) (e : Ending) (w' : World) : Prop := ∃ (v : Value) (xs : List Int), e = .returned v ∧ xs.length ≤ 10000 ∧ IOwn w' w.heap.size v xs ∧ Src w' B g ∧ w.grownBy w' (some g)
theorem getDB (q : Nat) (h : (q : Int) < 2) : ∃ v : Int, (#[Value.int .i64 256, Value.int .i64 (-1)] : Array Value)[q]? = some (.int .i64 v) := by
  have h' : q < 2 := by omega
  match q, h' with
  | 0, _ => exact ⟨256, rfl⟩
  | 1, _ => exact ⟨-1, rfl⟩
set_option maxHeartbeats 2000000 in
theorem s_l01DrawBytes (g B : Nat) (most : Int) (w : World) (h : Src w B g) (hm0 : 0 ≤ most) (hm1 : most ≤ 1000) :
    Calls Tryd.prog 68 #[.pointer (some ⟨g, 0, none⟩), .int .i64 most] w (DrewLB B g w) := by
  have l0 := h.lt
  have hBg := h.1
  go_enter Tryd.func68, Tryd.ntmps68
  go_wp2_with fail
  refine (s_l01Next _ _ (most + 1) _ (h.alloc _)).mono ?_
  rintro e w2 ⟨r, rfl, h0, h1, S2, g2⟩
  have z2 := g2.size
  simp at z2
  have o2 : IOwn w2 w.heap.size (.slice (some ⟨w.heap.size, 0, none⟩) 0 0) [] := (lit_own w [] _ (by omega) (by simp)).kept g2 (.inr (by simp [Value.ownBlock]; omega))
  have G2 := grown_trans' (grown_alloc (World.grownBy.refl w (some g)) (.cells #[] 2)) g2 (.inl rfl)
  clear g2 h
  go_wp2_with fail
  go_loopw [5, 6] (fun v i wr => ∃ (k : Int) (xs : List Int), 0 ≤ k ∧ k ≤ 1000 ∧ i = .int .i64 k ∧ (xs.length : Int) + k ≤ 1000 ∧ IOwn wr w.heap.size v xs ∧ Src wr B g ∧ w.grownBy wr (some g)) (fun _ i _ => (intOf i).toNat)
  case atStart => exact ⟨r, [], h0, by omega, rfl, by simp; omega, o2, S2, G2⟩
  case round =>
    clear o2 S2 G2
    obtain ⟨k, xs, hk0, hk1, rfl, hlen, hown, S3, G3⟩ := hrel
    have z3 := G3.size
    by_cases hk : 0 < k
    · go_wp2_with fail
      refine (s_l01Next _ _ 256 _ S3).mono ?_
      rintro e w5 ⟨y, rfl, _, _, S5, g5⟩
      have z5 := g5.size
      have hown5 := hown.kept g5 (.inr (own_ne' hown (by omega)))
      have G5 := grown_trans' G3 g5 (.inl rfl)
      clear hown S3 g5 G3
      go_wp2_with (at_builtin; refine wpList_app _ rfl _ _ 22 rfl w.heap.size Tryd.underlying22 int_info _ xs rfl (hown5.alloc _) _ _ 1 1 [y] rfl (lit_ints w5 [y] 2 (by simp)) (by omega) (by simp; omega) ?_; intro v' w' hown' hg' hor)
      obtain ⟨S', z'⟩ := list_push' hown5 hg' S5 (by omega) (by omega) (by omega)
      have G' := grown_trans' (grown_alloc G5 _) hg' (.inr (fun q hq => (hown5.lt q hq).1))
      go_roundw
      case rel => exact ⟨k - 1, xs ++ [y], by omega, by omega, by go_num, by simp; omega, hown', S', G'⟩
      case measure => simp [intOf]; omega
    · go_wp2_with fail
      refine (s_l01Next _ _ 40 _ S3).mono ?_
      rintro e w4 ⟨x, rfl, _, _, S4, g4⟩
      have z4 := g4.size
      have hown4 := hown.kept g4 (.inr (own_ne' hown (by omega)))
      have G4 := grown_trans' G3 g4 (.inl rfl)
      have l4 := S4.lt
      clear hown S3 g4 G3
      cases q0 : (x == 0)
      · cases q1 : (x == 1)
        · go_wp2
          go_ret
          exact ⟨_, _, rfl, by omega, hown4, S4, G4⟩
        · go_wp2_with fail
          refine (s_l01Next _ _ 2 _ S4).mono ?_
          rintro e w5 ⟨y, rfl, y0, y1, S5, g5⟩
          have z5 := g5.size
          have G5 := grown_trans' G4 g5 (.inl rfl)
          obtain ⟨i0, hi, hz0, hz1, hz2⟩ := info_parts int_info
          have hyy : ∃ p : Nat, p ≤ 1100 ∧ 1024 + y = (p : Int) := ⟨(1024 + y).toNat, by omega, by omega⟩
          obtain ⟨p, hp, hpe⟩ := hyy
          have Hpe := Lib.hid hpe
          have z0 : w.heap.size ≤ w5.heap.size := by omega
          clear G4 g5 hpe hown4
          go_wp2_with (at_make; rw [Hpe.out]; refine wpList_make_full _ rfl _ _ 22 rfl w.heap.size 2 i0 (.int .i64 0) 1 Tryd.underlying22 hi hz0 hz1 .i64 .i64 _ _ p rfl rfl rfl rfl ?c1 ?c2 ?c3 ?_)
          case c1 => rw [hz2]; omega
          case c2 => unfold maxLen; omega
          case c3 => exact z0
          intro w6 hown0 hg0
          have e0 : (madeCells #[Value.int IntKind.i64 0] p).toList = (List.replicate p (0:Int)).map (Value.int .i64) := by simp [toList_madeCells_one]
          have hown6 : IOwn w6 w.heap.size (.slice (some ⟨w5.heap.size, 0, none⟩) p p) (List.replicate p 0) := by
            unfold IOwn; rw [List.length_replicate, ← e0]; exact hown0
          have S6 := S5.kept hg0 (by simp) (by simp)
          have G6 := grown_trans' G5 hg0 (.inr (by simp))
          clear hown0 hg0 hi hz0 hz1 hz2 e0
          go_wp2
          go_ret
          exact ⟨_, _, rfl, by simp; omega, hown6, S6, G6⟩
      · go_wp2_with fail
        refine (s_l01Next _ _ 2 _ (S4.alloc _)).mono ?_
        rintro e w5 ⟨y, rfl, y0, y1, S5, g5⟩
        have z5 := g5.size
        simp at z5
        have hZ := zkeep (heap_alloc_new w4 (.cells #[.int .i64 256, .int .i64 (-1)] 2)) g5 (by omega)
        have hown5 := (hown4.alloc (.cells #[.int .i64 256, .int .i64 (-1)] 2)).kept g5 (.inr (own_ne' hown4 (by omega)))
        have G5 := grown_trans' (grown_alloc G4 _) g5 (.inl rfl)
        obtain ⟨q5, rfl⟩ := nat_of' y y0
        have q50 : (0 : Int) ≤ (q5 : Int) := y0
        have q51 : (q5 : Int) < 2 := (by omega)
        obtain ⟨v5, hv5⟩ := getDB q5 q51
        have hc5 := row_get hZ hv5
        clear hown4 S4 g5 G4 hZ hv5 y1
        go_wp2_with (at_builtin; refine wpList_app _ rfl _ _ 22 rfl w.heap.size Tryd.underlying22 int_info _ xs rfl (hown5.alloc _) _ _ 1 1 [v5] rfl (lit_ints w5 [v5] 2 (by simp)) (by omega) (by simp; omega) ?_; intro v' w' hown' hg' hor)
        obtain ⟨S', z'⟩ := list_push' hown5 hg' S5 (by omega) (by omega) (by omega)
        have G' := grown_trans' (grown_alloc G5 _) hg' (.inr (fun q hq => (hown5.lt q hq).1))
        go_ret
        exact ⟨_, _, rfl, by simp; omega, hown', S', G'⟩
end Go.Proofs.YtgenfffgenddmaaDoor
